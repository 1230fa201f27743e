/- Merged out of my texts LX LO LY LZ L1 L2 L3 L4 L6 L6b L5. -/
import Derived.Test.YtphkmlogjgeipaaDoorKb
import Derived.Test.YtphkmlogjgeipaaDoorVJ
import Derived.Test.YtphkmlogjgeipaaDoorRows
import Derived.ProofKit
import Derived.JoinedCond
import Derived.Shelf.Vars
import Derived.Lay
import Derived.Deep.DeepHandedRow
import Derived.Deep.DeepWitnessRowRef
/- Contracts of lowering, part p: lower.Class where at most one feature is used. -/
set_option linter.unusedSimpArgs false
set_option maxRecDepth 100000
namespace Go.Proofs.YtphkmlogjgeipaaDoor
open Go.VL Go.Ar Go.Lo Go.Proofs.YtphkmlogjgeipaaDoor

set_option linter.defProp false in
def tbLX0 := (And.intro (And.intro (And.intro (And.intro (And.intro (And.intro (And.intro Ty.sz3 Ty.by3) (And.intro Ty.ag3 (And.intro Ty.zr3 Ty.un3))) (And.intro (And.intro Ty.sz4 Ty.by4) (And.intro Ty.ag4 (And.intro Ty.zr4 Ty.un4)))) (And.intro (And.intro (And.intro Ty.sz9 Ty.by9) (And.intro Ty.ag9 (And.intro Ty.zr9 Ty.un9))) (And.intro (And.intro Ty.sz23 Ty.by23) (And.intro Ty.ag23 (And.intro Ty.zr23 Ty.fl23_0))))) (And.intro (And.intro (And.intro (And.intro Ty.pl23_0 Ty.fl23_1) (And.intro Ty.pl23_1 (And.intro Ty.fl23_2 Ty.pl23_2))) (And.intro (And.intro Ty.sz24 Ty.by24) (And.intro Ty.ag24 (And.intro Ty.zr24 Ty.un24)))) (And.intro (And.intro (And.intro Ty.sz26 Ty.by26) (And.intro Ty.ag26 (And.intro Ty.zr26 Ty.fl26_0))) (And.intro (And.intro Ty.pl26_0 (And.intro Ty.fl26_1 Ty.pl26_1)) (And.intro Ty.sz27 (And.intro Ty.by27 Ty.ag27)))))) (And.intro (And.intro (And.intro (And.intro (And.intro Ty.zr27 Ty.un27) (And.intro Ty.sz29 (And.intro Ty.by29 Ty.ag29))) (And.intro (And.intro Ty.zr29 Ty.fl29_0) (And.intro Ty.pl29_0 (And.intro Ty.fl29_1 Ty.pl29_1)))) (And.intro (And.intro (And.intro Ty.fl29_2 Ty.pl29_2) (And.intro Ty.fl29_3 (And.intro Ty.pl29_3 Ty.fl29_4))) (And.intro (And.intro Ty.pl29_4 Ty.fl29_5) (And.intro Ty.pl29_5 (And.intro Ty.fl29_6 Ty.pl29_6))))) (And.intro (And.intro (And.intro (And.intro Ty.fl29_7 Ty.pl29_7) (And.intro Ty.fl29_8 (And.intro Ty.pl29_8 Ty.sz56))) (And.intro (And.intro Ty.by56 Ty.ag56) (And.intro Ty.zr56 (And.intro Ty.fl56_0 Ty.pl56_0)))) (And.intro (And.intro (And.intro Ty.fl56_1 Ty.pl56_1) (And.intro Ty.fl56_2 (And.intro Ty.pl56_2 Ty.sz58))) (And.intro (And.intro Ty.by58 (And.intro Ty.ag58 Ty.zr58)) (And.intro Ty.fl58_0 (And.intro Ty.pl58_0 Ty.fl58_1))))))) (And.intro (And.intro (And.intro (And.intro (And.intro (And.intro Ty.pl58_1 Ty.fl58_2) (And.intro Ty.pl58_2 (And.intro Ty.fl58_3 Ty.pl58_3))) (And.intro (And.intro Ty.fl58_4 Ty.pl58_4) (And.intro Ty.sz60 (And.intro Ty.by60 Ty.ag60)))) (And.intro (And.intro (And.intro Ty.zr60 Ty.fl60_0) (And.intro Ty.pl60_0 (And.intro Ty.fl60_1 Ty.pl60_1))) (And.intro (And.intro Ty.sz61 Ty.by61) (And.intro Ty.ag61 (And.intro Ty.zr61 Ty.un61))))) (And.intro (And.intro (And.intro (And.intro Ty.sz63 Ty.by63) (And.intro Ty.ag63 (And.intro Ty.zr63 Ty.fl63_0))) (And.intro (And.intro Ty.pl63_0 Ty.fl63_1) (And.intro Ty.pl63_1 (And.intro Ty.fl63_2 Ty.pl63_2)))) (And.intro (And.intro (And.intro Ty.fl63_3 Ty.pl63_3) (And.intro Ty.sz64 (And.intro Ty.by64 Ty.ag64))) (And.intro (And.intro Ty.zr64 (And.intro Ty.un64 Ty.sz65)) (And.intro Ty.by65 (And.intro Ty.ag65 Ty.zr65)))))) (And.intro (And.intro (And.intro (And.intro (And.intro Ty.un65 Ty.sz67) (And.intro Ty.by67 (And.intro Ty.ag67 Ty.zr67))) (And.intro (And.intro Ty.fl67_0 Ty.pl67_0) (And.intro Ty.fl67_1 (And.intro Ty.pl67_1 Ty.fl67_2)))) (And.intro (And.intro (And.intro Ty.pl67_2 Ty.fl67_3) (And.intro Ty.pl67_3 (And.intro Ty.sz82 Ty.by82))) (And.intro (And.intro Ty.ag82 (And.intro Ty.zr82 Ty.un82)) (And.intro Ty.sz83 (And.intro Ty.by83 Ty.ag83))))) (And.intro (And.intro (And.intro (And.intro Ty.zr83 Ty.sz84) (And.intro Ty.by84 (And.intro Ty.ag84 Ty.sz86))) (And.intro (And.intro Ty.by86 Ty.ag86) (And.intro Ty.sz105 (And.intro Ty.by105 Ty.ag105)))) (And.intro (And.intro (And.intro Ty.zr105 Ty.fl105_0) (And.intro Ty.pl105_0 (And.intro Ty.fl105_1 Ty.pl105_1))) (And.intro (And.intro Ty.eq23 (And.intro Ty.eq26 Ty.eq105)) (And.intro Ty.cb29 (And.intro Ty.cb33 Ty.cb34))))))))
theorem class_none (c : Cat) (x : E) (hf : Fit x) (O : List Str) (hu : OkP Tryd.prog 33 [vCat c, vE x] (.tup [vstrs [], vstrs O])) : OkP Tryd.prog 18 [vCat c, vE x] (vint (eachM x 0)) := by
  have ho := fun bn => own_ok x hf bn 0
  simp only [vE, cE_eq x] at ho hu ⊢
  refine Ok.of_ex Ty.mixed Tryd.func18 rfl (by simp [Tryd.ntmps18]) (by kernel_rfl) fun F w0 I0 => ?_
  simp only [↓rA, rB, Int.reduceEq, Int.reduceLE, Int.reduceLT, Int.reduceToNat, Nat.reduceAdd, Nat.reduceEqDiff, Nat.reduceLT, Nat.reduceLeDiff, Nat.reduceMul, Nat.reduceSub, reduceCtorEq, tbLX0, Tryd.results18]
  refine fun b2 h2 => ?_; replace h2 := newb h2; try simp only [Nb] at h2
  simp only [↓rA, rB, Int.reduceEq, Int.reduceLE, Int.reduceLT, Int.reduceToNat, Nat.reduceAdd, Nat.reduceEqDiff, Nat.reduceLT, Nat.reduceLeDiff, Nat.reduceMul, Nat.reduceSub, reduceCtorEq, tbLX0, Tryd.results18, h2]
  refine fun b3 h3 => ?_; replace h3 := newb h3; try simp only [Nb] at h3
  simp only [↓rA, rB, Int.reduceEq, Int.reduceLE, Int.reduceLT, Int.reduceToNat, Nat.reduceAdd, Nat.reduceEqDiff, Nat.reduceLT, Nat.reduceLeDiff, Nat.reduceMul, Nat.reduceSub, reduceCtorEq, tbLX0, Tryd.results18, h2, h3]
  refine fun b4 h4 => ?_; replace h4 := newb h4; try simp only [Nb] at h4
  simp only [↓rA, rB, Int.reduceEq, Int.reduceLE, Int.reduceLT, Int.reduceToNat, Nat.reduceAdd, Nat.reduceEqDiff, Nat.reduceLT, Nat.reduceLeDiff, Nat.reduceMul, Nat.reduceSub, reduceCtorEq, tbLX0, Tryd.results18, h2, h3, h4]
  refine OkF_with [_] [_, _] (List.Perm.refl _) (ho b4) ?_
  rintro v bs rs ⟨rfl, rfl, rfl⟩
  simp only [↓rA, rB, Int.reduceEq, Int.reduceLE, Int.reduceLT, Int.reduceToNat, Nat.reduceAdd, Nat.reduceEqDiff, Nat.reduceLT, Nat.reduceLeDiff, Nat.reduceMul, Nat.reduceSub, reduceCtorEq, tbLX0, Tryd.results18, h2, h3, h4]
  refine OkF_of _ hu ?_
  simp only [↓rA, rB, Int.reduceEq, Int.reduceLE, Int.reduceLT, Int.reduceToNat, Nat.reduceAdd, Nat.reduceEqDiff, Nat.reduceLT, Nat.reduceLeDiff, Nat.reduceMul, Nat.reduceSub, reduceCtorEq, tbLX0, Tryd.results18, h2, h3, h4]
  refine EX_for Ty.mixed (by kernel_rfl) 0 (fun _ S => S.boxes = [(b4, .c [vint (eachM x 0)]), (b3, .c (cH x.hd (vEs x.args))), (b2, .c (cCat c))] ∧ S.rows = [] ∧ S.σ 4 = ptr b4 ∧ S.σ 22 = vstrs [] ∧ S.σ 23 = vint 0 ∧ S.σ 24 = vint 0) ⟨0, ?_⟩ (fun i S hi _ => absurd hi (Nat.not_lt_zero _)) (fun S ⟨gb, gr, g4, g22, g23, g24⟩ => ?_)
  · simp only [↓rA, rB, Int.reduceEq, Int.reduceLE, Int.reduceLT, Int.reduceToNat, Nat.reduceAdd, Nat.reduceEqDiff, Nat.reduceLT, Nat.reduceLeDiff, Nat.reduceMul, Nat.reduceSub, reduceCtorEq, tbLX0, Tryd.results18, h2, h3, h4]
  · simp only [↓rA, rB, Int.reduceEq, Int.reduceLE, Int.reduceLT, Int.reduceToNat, Nat.reduceAdd, Nat.reduceEqDiff, Nat.reduceLT, Nat.reduceLeDiff, Nat.reduceMul, Nat.reduceSub, reduceCtorEq, tbLX0, Tryd.results18, gb, gr, g4, g22, g23, g24, h2, h3, h4]
    exact ret_done rfl
set_option linter.defProp false in
def tbLX1 := (And.intro (And.intro (And.intro (And.intro (And.intro (And.intro (And.intro Ty.sz3 Ty.by3) (And.intro Ty.ag3 (And.intro Ty.zr3 Ty.un3))) (And.intro (And.intro Ty.sz4 Ty.by4) (And.intro Ty.ag4 (And.intro Ty.zr4 Ty.un4)))) (And.intro (And.intro (And.intro Ty.sz9 Ty.by9) (And.intro Ty.ag9 (And.intro Ty.zr9 Ty.un9))) (And.intro (And.intro Ty.sz23 Ty.by23) (And.intro Ty.ag23 (And.intro Ty.zr23 Ty.fl23_0))))) (And.intro (And.intro (And.intro (And.intro Ty.pl23_0 Ty.fl23_1) (And.intro Ty.pl23_1 (And.intro Ty.fl23_2 Ty.pl23_2))) (And.intro (And.intro Ty.sz24 Ty.by24) (And.intro Ty.ag24 (And.intro Ty.zr24 Ty.un24)))) (And.intro (And.intro (And.intro Ty.sz26 Ty.by26) (And.intro Ty.ag26 (And.intro Ty.zr26 Ty.fl26_0))) (And.intro (And.intro Ty.pl26_0 (And.intro Ty.fl26_1 Ty.pl26_1)) (And.intro Ty.sz27 (And.intro Ty.by27 Ty.ag27)))))) (And.intro (And.intro (And.intro (And.intro (And.intro Ty.zr27 Ty.un27) (And.intro Ty.sz29 (And.intro Ty.by29 Ty.ag29))) (And.intro (And.intro Ty.zr29 Ty.fl29_0) (And.intro Ty.pl29_0 (And.intro Ty.fl29_1 Ty.pl29_1)))) (And.intro (And.intro (And.intro Ty.fl29_2 Ty.pl29_2) (And.intro Ty.fl29_3 (And.intro Ty.pl29_3 Ty.fl29_4))) (And.intro (And.intro Ty.pl29_4 Ty.fl29_5) (And.intro Ty.pl29_5 (And.intro Ty.fl29_6 Ty.pl29_6))))) (And.intro (And.intro (And.intro (And.intro Ty.fl29_7 Ty.pl29_7) (And.intro Ty.fl29_8 (And.intro Ty.pl29_8 Ty.sz56))) (And.intro (And.intro Ty.by56 Ty.ag56) (And.intro Ty.zr56 (And.intro Ty.fl56_0 Ty.pl56_0)))) (And.intro (And.intro (And.intro Ty.fl56_1 Ty.pl56_1) (And.intro Ty.fl56_2 (And.intro Ty.pl56_2 Ty.sz58))) (And.intro (And.intro Ty.by58 (And.intro Ty.ag58 Ty.zr58)) (And.intro Ty.fl58_0 (And.intro Ty.pl58_0 Ty.fl58_1))))))) (And.intro (And.intro (And.intro (And.intro (And.intro (And.intro Ty.pl58_1 Ty.fl58_2) (And.intro Ty.pl58_2 (And.intro Ty.fl58_3 Ty.pl58_3))) (And.intro (And.intro Ty.fl58_4 Ty.pl58_4) (And.intro Ty.sz60 (And.intro Ty.by60 Ty.ag60)))) (And.intro (And.intro (And.intro Ty.zr60 Ty.fl60_0) (And.intro Ty.pl60_0 (And.intro Ty.fl60_1 Ty.pl60_1))) (And.intro (And.intro Ty.sz61 Ty.by61) (And.intro Ty.ag61 (And.intro Ty.zr61 Ty.un61))))) (And.intro (And.intro (And.intro (And.intro Ty.sz63 Ty.by63) (And.intro Ty.ag63 (And.intro Ty.zr63 Ty.fl63_0))) (And.intro (And.intro Ty.pl63_0 Ty.fl63_1) (And.intro Ty.pl63_1 (And.intro Ty.fl63_2 Ty.pl63_2)))) (And.intro (And.intro (And.intro Ty.fl63_3 Ty.pl63_3) (And.intro Ty.sz64 (And.intro Ty.by64 Ty.ag64))) (And.intro (And.intro Ty.zr64 (And.intro Ty.un64 Ty.sz65)) (And.intro Ty.by65 (And.intro Ty.ag65 Ty.zr65)))))) (And.intro (And.intro (And.intro (And.intro (And.intro Ty.un65 Ty.sz67) (And.intro Ty.by67 (And.intro Ty.ag67 Ty.zr67))) (And.intro (And.intro Ty.fl67_0 Ty.pl67_0) (And.intro Ty.fl67_1 (And.intro Ty.pl67_1 Ty.fl67_2)))) (And.intro (And.intro (And.intro Ty.pl67_2 Ty.fl67_3) (And.intro Ty.pl67_3 (And.intro Ty.sz82 Ty.by82))) (And.intro (And.intro Ty.ag82 (And.intro Ty.zr82 Ty.un82)) (And.intro Ty.sz83 (And.intro Ty.by83 Ty.ag83))))) (And.intro (And.intro (And.intro (And.intro Ty.zr83 Ty.sz84) (And.intro Ty.by84 (And.intro Ty.ag84 Ty.sz86))) (And.intro (And.intro Ty.by86 Ty.ag86) (And.intro Ty.sz105 (And.intro Ty.by105 Ty.ag105)))) (And.intro (And.intro (And.intro Ty.zr105 Ty.fl105_0) (And.intro Ty.pl105_0 (And.intro Ty.fl105_1 Ty.pl105_1))) (And.intro (And.intro Ty.eq23 (And.intro Ty.eq26 Ty.eq105)) (And.intro Ty.cb29 (And.intro Ty.cb33 Ty.cb34))))))))
theorem class_one (c : Cat) (x : E) (hf : Fit x) (hfe : c.features.length ≤ big) (f : Str) (g : Ftr) (hg : Fit g.body) (hfi : findF c.features f = some g) (O : List Str) (hu : OkP Tryd.prog 33 [vCat c, vE x] (.tup [vstrs [f], vstrs O])) : OkP Tryd.prog 18 [vCat c, vE x] (vint (eachM g.body (eachM x 0))) := by
  have ho := fun bn => own_ok x hf bn 0
  have hq := fun bn => own_ok g.body hg bn (eachM x 0)
  have hfo := feature_ok c f hfe
  rw [hfi] at hfo
  simp only [vFind, cFtr_eq] at hfo
  simp only [vE, cE_eq x, cE_eq g.body] at ho hq hu ⊢
  refine Ok.of_ex Ty.mixed Tryd.func18 rfl (by simp [Tryd.ntmps18]) (by kernel_rfl) fun F w0 I0 => ?_
  simp only [↓rA, rB, Int.reduceEq, Int.reduceLE, Int.reduceLT, Int.reduceToNat, Nat.reduceAdd, Nat.reduceEqDiff, Nat.reduceLT, Nat.reduceLeDiff, Nat.reduceMul, Nat.reduceSub, reduceCtorEq, tbLX1, Tryd.results18]
  refine fun b2 h2 => ?_; replace h2 := newb h2; try simp only [Nb] at h2
  simp only [↓rA, rB, Int.reduceEq, Int.reduceLE, Int.reduceLT, Int.reduceToNat, Nat.reduceAdd, Nat.reduceEqDiff, Nat.reduceLT, Nat.reduceLeDiff, Nat.reduceMul, Nat.reduceSub, reduceCtorEq, tbLX1, Tryd.results18, h2]
  refine fun b3 h3 => ?_; replace h3 := newb h3; try simp only [Nb] at h3
  simp only [↓rA, rB, Int.reduceEq, Int.reduceLE, Int.reduceLT, Int.reduceToNat, Nat.reduceAdd, Nat.reduceEqDiff, Nat.reduceLT, Nat.reduceLeDiff, Nat.reduceMul, Nat.reduceSub, reduceCtorEq, tbLX1, Tryd.results18, h2, h3]
  refine fun b4 h4 => ?_; replace h4 := newb h4; try simp only [Nb] at h4
  simp only [↓rA, rB, Int.reduceEq, Int.reduceLE, Int.reduceLT, Int.reduceToNat, Nat.reduceAdd, Nat.reduceEqDiff, Nat.reduceLT, Nat.reduceLeDiff, Nat.reduceMul, Nat.reduceSub, reduceCtorEq, tbLX1, Tryd.results18, h2, h3, h4]
  refine OkF_with [_] [_, _] (List.Perm.refl _) (ho b4) ?_
  rintro v bs rs ⟨rfl, rfl, rfl⟩
  simp only [↓rA, rB, Int.reduceEq, Int.reduceLE, Int.reduceLT, Int.reduceToNat, Nat.reduceAdd, Nat.reduceEqDiff, Nat.reduceLT, Nat.reduceLeDiff, Nat.reduceMul, Nat.reduceSub, reduceCtorEq, tbLX1, Tryd.results18, h2, h3, h4]
  refine OkF_of _ hu ?_
  simp only [↓rA, rB, Int.reduceEq, Int.reduceLE, Int.reduceLT, Int.reduceToNat, Nat.reduceAdd, Nat.reduceEqDiff, Nat.reduceLT, Nat.reduceLeDiff, Nat.reduceMul, Nat.reduceSub, reduceCtorEq, tbLX1, Tryd.results18, h2, h3, h4]
  refine EX_for Ty.mixed (by kernel_rfl) 1 (fun i S => S.boxes = [(b4, .c [vint (if i = 0 then eachM x 0 else eachM g.body (eachM x 0))]), (b3, .c (cH x.hd (vEs x.args))), (b2, .c (cCat c))] ∧ S.rows = [] ∧ S.σ 2 = ptr b2 ∧ S.σ 4 = ptr b4 ∧ S.σ 5 = fnO b4 ∧ S.σ 22 = vstrs [f] ∧ S.σ 23 = vint 1 ∧ S.σ 24 = vint i) ⟨0, ?_⟩ (fun i S hi ⟨gb, gr, g2, g4, g5, g22, g23, g24⟩ => ?_) (fun S ⟨gb, gr, g2, g4, g5, g22, g23, g24⟩ => ?_)
  · simp only [↓rA, rB, Int.reduceEq, Int.reduceLE, Int.reduceLT, Int.reduceToNat, Nat.reduceAdd, Nat.reduceEqDiff, Nat.reduceLT, Nat.reduceLeDiff, Nat.reduceMul, Nat.reduceSub, reduceCtorEq, tbLX1, Tryd.results18, h2, h3, h4]
    rfl
  · obtain rfl : i = 0 := by omega
    simp only [if_true] at gb
    have i0 : ((0 : Nat) : Int) < 1 := by decide
    simp only [↓rA, rB, Int.reduceEq, Int.reduceLE, Int.reduceLT, Int.reduceToNat, Nat.reduceAdd, Nat.reduceEqDiff, Nat.reduceLT, Nat.reduceLeDiff, Nat.reduceMul, Nat.reduceSub, reduceCtorEq, tbLX1, Tryd.results18, gb, gr, g2, g4, g5, g22, g23, g24, h2, h3, h4, i0]
    refine OkF_of _ hfo ?_
    simp only [↓rA, rB, Int.reduceEq, Int.reduceLE, Int.reduceLT, Int.reduceToNat, Nat.reduceAdd, Nat.reduceEqDiff, Nat.reduceLT, Nat.reduceLeDiff, Nat.reduceMul, Nat.reduceSub, reduceCtorEq, tbLX1, Tryd.results18, gb, gr, g2, g4, g5, g22, g23, g24, h2, h3, h4]
    refine fun b10 h10 => ?_; replace h10 := newb h10; try simp only [Nb] at h10
    simp only [↓rA, rB, Int.reduceEq, Int.reduceLE, Int.reduceLT, Int.reduceToNat, Nat.reduceAdd, Nat.reduceEqDiff, Nat.reduceLT, Nat.reduceLeDiff, Nat.reduceMul, Nat.reduceSub, reduceCtorEq, tbLX1, Tryd.results18, gb, gr, g2, g4, g5, g22, g23, g24, h2, h3, h4, h10]
    refine OkF_with [_, _] [_, _] (List.Perm.refl _) (Ok.frame [_] (hq b4)) ?_
    rintro v bs rs ⟨bs1, rfl, _, rfl, rfl, rfl⟩
    simp only [↓rA, rB, Int.reduceEq, Int.reduceLE, Int.reduceLT, Int.reduceToNat, Nat.reduceAdd, Nat.reduceEqDiff, Nat.reduceLT, Nat.reduceLeDiff, Nat.reduceMul, Nat.reduceSub, reduceCtorEq, tbLX1, Tryd.results18, gr, g2, g4, g5, g22, g23, g24, h2, h3, h4, h10]
    exact ⟨1, rfl, rfl⟩
  · simp only [Nat.one_ne_zero, if_false] at gb
    have i1 : ¬ ((1 : Nat) : Int) < 1 := by decide
    simp only [↓rA, rB, Int.reduceEq, Int.reduceLE, Int.reduceLT, Int.reduceToNat, Nat.reduceAdd, Nat.reduceEqDiff, Nat.reduceLT, Nat.reduceLeDiff, Nat.reduceMul, Nat.reduceSub, reduceCtorEq, tbLX1, Tryd.results18, gb, gr, g2, g4, g5, g22, g23, g24, h2, h3, h4, i1]
    exact ret_done rfl
end Go.Proofs.YtphkmlogjgeipaaDoor

/- Contracts of lowering, part k: the reference's equalities. Printed by mkLO.py. -/
set_option linter.unusedSimpArgs false
set_option maxRecDepth 100000
namespace Go.Proofs.YtphkmlogjgeipaaDoor
open Go.VL Go.Ar Go.Lo Go.Proofs.YtphkmlogjgeipaaDoor

set_option linter.defProp false in
def tbLO0 := (And.intro (And.intro (And.intro (And.intro Ty.sz3 (And.intro Ty.by3 Ty.ag3)) (And.intro (And.intro Ty.zr3 Ty.un3) (And.intro Ty.sz4 Ty.by4))) (And.intro (And.intro Ty.ag4 (And.intro Ty.zr4 Ty.un4)) (And.intro (And.intro Ty.sz9 Ty.by9) (And.intro Ty.ag9 Ty.zr9)))) (And.intro (And.intro (And.intro Ty.un9 (And.intro Ty.sz24 Ty.by24)) (And.intro (And.intro Ty.ag24 Ty.zr24) (And.intro Ty.un24 Ty.sz105))) (And.intro (And.intro (And.intro Ty.by105 Ty.ag105) (And.intro Ty.zr105 Ty.fl105_0)) (And.intro (And.intro Ty.pl105_0 Ty.fl105_1) (And.intro Ty.pl105_1 Ty.eq105)))))
theorem same07_ok (u v : List Fac) (hu : u.length ≤ big) : OkP Tryd.prog 42 [vFacs u, vFacs v] (vbool (decide (u = v))) := by
  have fb : ∀ {a b : Bool}, a = b → V.lit (.bool a) = vbool b := fun h => by rw [h]
  unfold big at hu
  refine Ok.of_ex Ty.mixed Tryd.func42 rfl (by simp [Tryd.ntmps42]) (by kernel_rfl) fun F w0 I0 => ?_
  by_cases hl : ¬ u.length = v.length
  · have hl' : ¬ (u.length : Int) = v.length := by omega
    simp only [↓rA, rB, Int.reduceEq, Int.reduceLE, Int.reduceLT, Int.reduceToNat, Nat.reduceAdd, Nat.reduceEqDiff, Nat.reduceLT, Nat.reduceLeDiff, Nat.reduceMul, Nat.reduceSub, reduceCtorEq, tbLO0, Tryd.results42, List.length_map, hl']
    exact ret_done (fb (decide_eq_false fun e => hl (by rw [e])).symm)
  have hl' : (u.length : Int) = v.length := by omega
  have hl : u.length = v.length := by omega
  simp only [↓rA, rB, Int.reduceEq, Int.reduceLE, Int.reduceLT, Int.reduceToNat, Nat.reduceAdd, Nat.reduceEqDiff, Nat.reduceLT, Nat.reduceLeDiff, Nat.reduceMul, Nat.reduceSub, reduceCtorEq, tbLO0, Tryd.results42, List.length_map, hl']
  refine EX_for Ty.mixed (by kernel_rfl) v.length (fun i S => u.take i = v.take i ∧ S.boxes = [] ∧ S.rows = [] ∧ S.σ 0 = vFacs u ∧ S.σ 1 = vFacs v ∧ S.σ 5 = vint i) ⟨0, ?_⟩ (fun i S hi ⟨hf, gb, gr, g0, g1, g5⟩ => ?_) (fun S ⟨hf, gb, gr, g0, g1, g5⟩ => ?_)
  · simp only [↓rA, rB, Int.reduceEq, Int.reduceLE, Int.reduceLT, Int.reduceToNat, Nat.reduceAdd, Nat.reduceEqDiff, Nat.reduceLT, Nat.reduceLeDiff, Nat.reduceMul, Nat.reduceSub, reduceCtorEq, tbLO0, Tryd.results42, List.length_map, hl']
    try exact rfl
  · have hwi := wrap_succ (i := i) (N := v.length) hi (by omega)
    have hiu : i < u.length := by omega
    simp only [↓rA, rB, Int.reduceEq, Int.reduceLE, Int.reduceLT, Int.reduceToNat, Nat.reduceAdd, Nat.reduceEqDiff, Nat.reduceLT, Nat.reduceLeDiff, Nat.reduceMul, Nat.reduceSub, reduceCtorEq, tbLO0, Tryd.results42, gb, gr, g0, g1, g5, hl', Int.ofNat_lt, hi, hiu, List.length_map, getD_map _ _ _ hi, getD_map _ _ _ hiu]
    refine onCond_splitb (fun hc => ?_) (fun hc => ?_)
    · simp only [↓rA, rB, Int.reduceEq, Int.reduceLE, Int.reduceLT, Int.reduceToNat, Nat.reduceAdd, Nat.reduceEqDiff, Nat.reduceLT, Nat.reduceLeDiff, Nat.reduceMul, Nat.reduceSub, reduceCtorEq, tbLO0, Tryd.results42, gb, gr, g0, g1, g5]
      refine ret_done (fb (decide_eq_false fun e => ?_).symm)
      subst e
      simp at hc
    · simp only [↓rA, rB, Int.reduceEq, Int.reduceLE, Int.reduceLT, Int.reduceToNat, Nat.reduceAdd, Nat.reduceEqDiff, Nat.reduceLT, Nat.reduceLeDiff, Nat.reduceMul, Nat.reduceSub, reduceCtorEq, tbLO0, Tryd.results42, gb, gr, g0, g1, g5, hwi]
      refine ⟨0, ?_⟩
      rw [List.take_succ_eq_append_getElem hi, List.take_succ_eq_append_getElem hiu, hf]
      have : u[i] = v[i] := by
        rw [fac_ext]
        simpa using hc
      rw [this]
  · simp only [↓rA, rB, Int.reduceEq, Int.reduceLE, Int.reduceLT, Int.reduceToNat, Nat.reduceAdd, Nat.reduceEqDiff, Nat.reduceLT, Nat.reduceLeDiff, Nat.reduceMul, Nat.reduceSub, reduceCtorEq, tbLO0, Tryd.results42, gb, gr, g0, g1, g5, hl', List.length_map, Int.ofNat_lt, Nat.lt_irrefl]
    rw [List.take_of_length_le (Nat.le_refl _), List.take_of_length_le (by omega)] at hf
    exact ret_done (fb (decide_eq_true hf).symm)

set_option linter.defProp false in
def tbLO1 := (And.intro (And.intro (And.intro Ty.sz3 (And.intro Ty.by3 Ty.ag3)) (And.intro (And.intro Ty.zr3 Ty.un3) (And.intro Ty.sz4 Ty.by4))) (And.intro (And.intro (And.intro Ty.ag4 Ty.zr4) (And.intro Ty.un4 Ty.sz41)) (And.intro (And.intro Ty.by41 Ty.ag41) (And.intro Ty.zr41 Ty.un41))))
theorem sameInts_ok (u v : List Int) (hu : u.length ≤ big) : OkP Tryd.prog 24 [vints u, vints v] (vbool (decide (u = v))) := by
  have fb : ∀ {a b : Bool}, a = b → V.lit (.bool a) = vbool b := fun h => by rw [h]
  unfold big at hu
  refine Ok.of_ex Ty.mixed Tryd.func24 rfl (by simp [Tryd.ntmps24]) (by kernel_rfl) fun F w0 I0 => ?_
  by_cases hl : ¬ u.length = v.length
  · have hl' : ¬ (u.length : Int) = v.length := by omega
    simp only [↓rA, rB, Int.reduceEq, Int.reduceLE, Int.reduceLT, Int.reduceToNat, Nat.reduceAdd, Nat.reduceEqDiff, Nat.reduceLT, Nat.reduceLeDiff, Nat.reduceMul, Nat.reduceSub, reduceCtorEq, tbLO1, Tryd.results24, List.length_map, hl']
    exact ret_done (fb (decide_eq_false fun e => hl (by rw [e])).symm)
  have hl' : (u.length : Int) = v.length := by omega
  have hl : u.length = v.length := by omega
  simp only [↓rA, rB, Int.reduceEq, Int.reduceLE, Int.reduceLT, Int.reduceToNat, Nat.reduceAdd, Nat.reduceEqDiff, Nat.reduceLT, Nat.reduceLeDiff, Nat.reduceMul, Nat.reduceSub, reduceCtorEq, tbLO1, Tryd.results24, List.length_map, hl']
  refine EX_for Ty.mixed (by kernel_rfl) v.length (fun i S => u.take i = v.take i ∧ S.boxes = [] ∧ S.rows = [] ∧ S.σ 0 = vints u ∧ S.σ 1 = vints v ∧ S.σ 5 = vint i) ⟨0, ?_⟩ (fun i S hi ⟨hf, gb, gr, g0, g1, g5⟩ => ?_) (fun S ⟨hf, gb, gr, g0, g1, g5⟩ => ?_)
  · simp only [↓rA, rB, Int.reduceEq, Int.reduceLE, Int.reduceLT, Int.reduceToNat, Nat.reduceAdd, Nat.reduceEqDiff, Nat.reduceLT, Nat.reduceLeDiff, Nat.reduceMul, Nat.reduceSub, reduceCtorEq, tbLO1, Tryd.results24, List.length_map, hl']
    try exact rfl
  · have hwi := wrap_succ (i := i) (N := v.length) hi (by omega)
    have hiu : i < u.length := by omega
    by_cases e : u[i] = v[i]
    · simp only [↓rA, rB, Int.reduceEq, Int.reduceLE, Int.reduceLT, Int.reduceToNat, Nat.reduceAdd, Nat.reduceEqDiff, Nat.reduceLT, Nat.reduceLeDiff, Nat.reduceMul, Nat.reduceSub, reduceCtorEq, tbLO1, Tryd.results24, gb, gr, g0, g1, g5, hl', Int.ofNat_lt, hi, hiu, List.length_map, getD_map _ _ _ hi, getD_map _ _ _ hiu, e, hwi]
      exact ⟨0, by rw [List.take_succ_eq_append_getElem hi, List.take_succ_eq_append_getElem hiu, hf, e]⟩
    · simp only [↓rA, rB, Int.reduceEq, Int.reduceLE, Int.reduceLT, Int.reduceToNat, Nat.reduceAdd, Nat.reduceEqDiff, Nat.reduceLT, Nat.reduceLeDiff, Nat.reduceMul, Nat.reduceSub, reduceCtorEq, tbLO1, Tryd.results24, gb, gr, g0, g1, g5, hl', Int.ofNat_lt, hi, hiu, List.length_map, getD_map _ _ _ hi, getD_map _ _ _ hiu, e]
      refine ret_done (fb (decide_eq_false fun e' => e ?_).symm)
      subst e'
      rfl
  · simp only [↓rA, rB, Int.reduceEq, Int.reduceLE, Int.reduceLT, Int.reduceToNat, Nat.reduceAdd, Nat.reduceEqDiff, Nat.reduceLT, Nat.reduceLeDiff, Nat.reduceMul, Nat.reduceSub, reduceCtorEq, tbLO1, Tryd.results24, gb, gr, g0, g1, g5, hl', List.length_map, Int.ofNat_lt, Nat.lt_irrefl]
    rw [List.take_of_length_le (Nat.le_refl _), List.take_of_length_le (by omega)] at hf
    exact ret_done (fb (decide_eq_true hf).symm)

set_option linter.defProp false in
def tbLO2 := (And.intro (And.intro (And.intro (And.intro (And.intro (And.intro Ty.sz3 Ty.by3) (And.intro Ty.ag3 Ty.zr3)) (And.intro (And.intro Ty.un3 Ty.sz4) (And.intro Ty.by4 (And.intro Ty.ag4 Ty.zr4)))) (And.intro (And.intro (And.intro Ty.un4 Ty.sz9) (And.intro Ty.by9 (And.intro Ty.ag9 Ty.zr9))) (And.intro (And.intro Ty.un9 Ty.sz23) (And.intro Ty.by23 (And.intro Ty.ag23 Ty.zr23))))) (And.intro (And.intro (And.intro (And.intro Ty.fl23_0 Ty.pl23_0) (And.intro Ty.fl23_1 Ty.pl23_1)) (And.intro (And.intro Ty.fl23_2 Ty.pl23_2) (And.intro Ty.sz24 (And.intro Ty.by24 Ty.ag24)))) (And.intro (And.intro (And.intro Ty.zr24 Ty.un24) (And.intro Ty.sz26 (And.intro Ty.by26 Ty.ag26))) (And.intro (And.intro Ty.zr26 Ty.fl26_0) (And.intro Ty.pl26_0 (And.intro Ty.fl26_1 Ty.pl26_1)))))) (And.intro (And.intro (And.intro (And.intro (And.intro Ty.sz27 Ty.by27) (And.intro Ty.ag27 Ty.zr27)) (And.intro (And.intro Ty.un27 Ty.sz29) (And.intro Ty.by29 (And.intro Ty.ag29 Ty.zr29)))) (And.intro (And.intro (And.intro Ty.fl29_0 Ty.pl29_0) (And.intro Ty.fl29_1 (And.intro Ty.pl29_1 Ty.fl29_2))) (And.intro (And.intro Ty.pl29_2 Ty.fl29_3) (And.intro Ty.pl29_3 (And.intro Ty.fl29_4 Ty.pl29_4))))) (And.intro (And.intro (And.intro (And.intro Ty.fl29_5 Ty.pl29_5) (And.intro Ty.fl29_6 (And.intro Ty.pl29_6 Ty.fl29_7))) (And.intro (And.intro Ty.pl29_7 Ty.fl29_8) (And.intro Ty.pl29_8 (And.intro Ty.sz105 Ty.by105)))) (And.intro (And.intro (And.intro Ty.ag105 Ty.zr105) (And.intro Ty.fl105_0 (And.intro Ty.pl105_0 Ty.fl105_1))) (And.intro (And.intro Ty.pl105_1 Ty.eq23) (And.intro Ty.eq26 (And.intro Ty.eq105 Ty.cb42)))))))
theorem flat_ok (a b : Hd) (x y : List E) (hu : a.unit.length ≤ big) : OkP Tryd.prog 27 [.agg (cH a (vEs x)), .agg (cH b (vEs y))] (vbool (decide (a = b))) := by
  have fb : ∀ {a b : Bool}, a = b → V.lit (.bool a) = vbool b := fun h => by rw [h]
  refine Ok.of_ex Ty.mixed Tryd.func27 rfl (by simp [Tryd.ntmps27]) (by kernel_rfl) fun F w0 I0 => ?_
  simp only [↓rA, rB, Int.reduceEq, Int.reduceLE, Int.reduceLT, Int.reduceToNat, Nat.reduceAdd, Nat.reduceEqDiff, Nat.reduceLT, Nat.reduceLeDiff, Nat.reduceMul, Nat.reduceSub, reduceCtorEq, tbLO2, Tryd.results27]
  refine fun b1 h1 => ?_; replace h1 := newb h1; try simp only [Nb] at h1
  simp only [↓rA, rB, Int.reduceEq, Int.reduceLE, Int.reduceLT, Int.reduceToNat, Nat.reduceAdd, Nat.reduceEqDiff, Nat.reduceLT, Nat.reduceLeDiff, Nat.reduceMul, Nat.reduceSub, reduceCtorEq, tbLO2, Tryd.results27]
  refine fun b2 h2 => ?_; replace h2 := newb h2; try simp only [Nb] at h2
  by_cases e0 : a.kind = b.kind
  case neg =>
    simp only [↓rA, rB, Int.reduceEq, Int.reduceLE, Int.reduceLT, Int.reduceToNat, Nat.reduceAdd, Nat.reduceEqDiff, Nat.reduceLT, Nat.reduceLeDiff, Nat.reduceMul, Nat.reduceSub, reduceCtorEq, tbLO2, Tryd.results27, h1, h2, e0]
    exact ret_done (fb (decide_eq_false fun e => e0 (by rw [e])).symm)
  by_cases e1 : a.op = b.op
  case neg =>
    simp only [↓rA, rB, Int.reduceEq, Int.reduceLE, Int.reduceLT, Int.reduceToNat, Nat.reduceAdd, Nat.reduceEqDiff, Nat.reduceLT, Nat.reduceLeDiff, Nat.reduceMul, Nat.reduceSub, reduceCtorEq, tbLO2, Tryd.results27, h1, h2, e0, e1]
    exact ret_done (fb (decide_eq_false fun e => e1 (by rw [e])).symm)
  by_cases e2 : a.name = b.name
  case neg =>
    simp only [↓rA, rB, Int.reduceEq, Int.reduceLE, Int.reduceLT, Int.reduceToNat, Nat.reduceAdd, Nat.reduceEqDiff, Nat.reduceLT, Nat.reduceLeDiff, Nat.reduceMul, Nat.reduceSub, reduceCtorEq, tbLO2, Tryd.results27, h1, h2, e0, e1, e2]
    exact ret_done (fb (decide_eq_false fun e => e2 (by rw [e])).symm)
  by_cases e3 : a.table = b.table
  case neg =>
    simp only [↓rA, rB, Int.reduceEq, Int.reduceLE, Int.reduceLT, Int.reduceToNat, Nat.reduceAdd, Nat.reduceEqDiff, Nat.reduceLT, Nat.reduceLeDiff, Nat.reduceMul, Nat.reduceSub, reduceCtorEq, tbLO2, Tryd.results27, h1, h2, e0, e1, e2, e3]
    exact ret_done (fb (decide_eq_false fun e => e3 (by rw [e])).symm)
  have v4 := valEq a.val b.val
  have v7 := winEq a b
  by_cases e4 : a.val = b.val
  case neg =>
    simp only [↓rA, rB, Int.reduceEq, Int.reduceLE, Int.reduceLT, Int.reduceToNat, Nat.reduceAdd, Nat.reduceEqDiff, Nat.reduceLT, Nat.reduceLeDiff, Nat.reduceMul, Nat.reduceSub, reduceCtorEq, tbLO2, Tryd.results27, h1, h2, e0, e1, e2, e3, e4, v4]
    exact ret_done (fb (decide_eq_false fun e => e4 (by rw [e])).symm)
  simp only [↓rA, rB, Int.reduceEq, Int.reduceLE, Int.reduceLT, Int.reduceToNat, Nat.reduceAdd, Nat.reduceEqDiff, Nat.reduceLT, Nat.reduceLeDiff, Nat.reduceMul, Nat.reduceSub, reduceCtorEq, tbLO2, Tryd.results27, h1, h2, e0, e1, e2, e3, e4, v4]
  refine OkF_of _ (same07_ok a.unit b.unit hu) ?_
  by_cases e5 : a.unit = b.unit
  case neg =>
    simp only [↓rA, rB, Int.reduceEq, Int.reduceLE, Int.reduceLT, Int.reduceToNat, Nat.reduceAdd, Nat.reduceEqDiff, Nat.reduceLT, Nat.reduceLeDiff, Nat.reduceMul, Nat.reduceSub, reduceCtorEq, tbLO2, Tryd.results27, h1, h2, e5]
    exact ret_done (fb (decide_eq_false fun e => e5 (by rw [e])).symm)
  by_cases e6 : a.param = b.param
  case neg =>
    simp only [↓rA, rB, Int.reduceEq, Int.reduceLE, Int.reduceLT, Int.reduceToNat, Nat.reduceAdd, Nat.reduceEqDiff, Nat.reduceLT, Nat.reduceLeDiff, Nat.reduceMul, Nat.reduceSub, reduceCtorEq, tbLO2, Tryd.results27, h1, h2, e5, e6]
    exact ret_done (fb (decide_eq_false fun e => e6 (by rw [e])).symm)
  by_cases e7 : a.wk = b.wk ∧ a.ws = b.ws
  case neg =>
    simp only [↓rA, rB, Int.reduceEq, Int.reduceLE, Int.reduceLT, Int.reduceToNat, Nat.reduceAdd, Nat.reduceEqDiff, Nat.reduceLT, Nat.reduceLeDiff, Nat.reduceMul, Nat.reduceSub, reduceCtorEq, tbLO2, Tryd.results27, h1, h2, e5, e6, e7, v7]
    exact ret_done (fb (decide_eq_false fun e => e7 (by rw [e]; exact ⟨rfl, rfl⟩)).symm)
  simp only [↓rA, rB, Int.reduceEq, Int.reduceLE, Int.reduceLT, Int.reduceToNat, Nat.reduceAdd, Nat.reduceEqDiff, Nat.reduceLT, Nat.reduceLeDiff, Nat.reduceMul, Nat.reduceSub, reduceCtorEq, tbLO2, Tryd.results27, h1, h2, e5, e6, e7, v7]
  exact ret_done (fb (decide_eq_true (by rw [hd_ext]; exact ⟨e0, e1, e2, e3, by rw [e4]; exact ⟨rfl, rfl, rfl⟩, e5, e6, e7.1, e7.2⟩)).symm)

set_option linter.defProp false in
def tbLO3 := (And.intro (And.intro (And.intro (And.intro (And.intro (And.intro Ty.sz3 Ty.by3) (And.intro Ty.ag3 Ty.zr3)) (And.intro (And.intro Ty.un3 Ty.sz4) (And.intro Ty.by4 (And.intro Ty.ag4 Ty.zr4)))) (And.intro (And.intro (And.intro Ty.un4 Ty.sz9) (And.intro Ty.by9 (And.intro Ty.ag9 Ty.zr9))) (And.intro (And.intro Ty.un9 Ty.sz23) (And.intro Ty.by23 (And.intro Ty.ag23 Ty.zr23))))) (And.intro (And.intro (And.intro (And.intro Ty.fl23_0 Ty.pl23_0) (And.intro Ty.fl23_1 (And.intro Ty.pl23_1 Ty.fl23_2))) (And.intro (And.intro Ty.pl23_2 Ty.sz24) (And.intro Ty.by24 (And.intro Ty.ag24 Ty.zr24)))) (And.intro (And.intro (And.intro Ty.un24 Ty.sz26) (And.intro Ty.by26 (And.intro Ty.ag26 Ty.zr26))) (And.intro (And.intro Ty.fl26_0 Ty.pl26_0) (And.intro Ty.fl26_1 (And.intro Ty.pl26_1 Ty.sz27)))))) (And.intro (And.intro (And.intro (And.intro (And.intro Ty.by27 Ty.ag27) (And.intro Ty.zr27 Ty.un27)) (And.intro (And.intro Ty.sz29 Ty.by29) (And.intro Ty.ag29 (And.intro Ty.zr29 Ty.fl29_0)))) (And.intro (And.intro (And.intro Ty.pl29_0 Ty.fl29_1) (And.intro Ty.pl29_1 (And.intro Ty.fl29_2 Ty.pl29_2))) (And.intro (And.intro Ty.fl29_3 Ty.pl29_3) (And.intro Ty.fl29_4 (And.intro Ty.pl29_4 Ty.fl29_5))))) (And.intro (And.intro (And.intro (And.intro Ty.pl29_5 Ty.fl29_6) (And.intro Ty.pl29_6 (And.intro Ty.fl29_7 Ty.pl29_7))) (And.intro (And.intro Ty.fl29_8 Ty.pl29_8) (And.intro Ty.sz105 (And.intro Ty.by105 Ty.ag105)))) (And.intro (And.intro (And.intro Ty.zr105 Ty.fl105_0) (And.intro Ty.pl105_0 (And.intro Ty.fl105_1 Ty.pl105_1))) (And.intro (And.intro Ty.eq23 Ty.eq26) (And.intro Ty.eq105 (And.intro Ty.cb14 Ty.cb27)))))))
theorem sameExprR_ok : ∀ a : E, Fit a → ∀ b : E, OkP Tryd.prog 14 [vE a, vE b] (vbool (decide (a = b))) := by
  have fb : ∀ {a b : Bool}, a = b → V.lit (.bool a) = vbool b := fun h => by rw [h]
  intro x
  induction x using E.ind with
  | h a l ih =>
  intro hf y
  obtain ⟨b, m⟩ := y
  have hu := hf.unit
  have hl := hf.len
  have ha := hf.args
  simp only [E.args, E.hd, big] at hl ha hu
  rw [vE, vE, cE_mk, cE_mk]
  have no : a ≠ b → decide (E.mk a l = E.mk b m) = false := fun h => decide_eq_false fun e => h (by injection e)
  have no' : l ≠ m → decide (E.mk a l = E.mk b m) = false := fun h => decide_eq_false fun e => h (by injection e)
  refine Ok.of_ex Ty.mixed Tryd.func14 rfl (by simp [Tryd.ntmps14]) (by kernel_rfl) fun F w0 I0 => ?_
  simp only [↓rA, rB, Int.reduceEq, Int.reduceLE, Int.reduceLT, Int.reduceToNat, Nat.reduceAdd, Nat.reduceEqDiff, Nat.reduceLT, Nat.reduceLeDiff, Nat.reduceMul, Nat.reduceSub, reduceCtorEq, tbLO3, Tryd.results14]
  refine fun b1 h1 => ?_; replace h1 := newb h1; try simp only [Nb] at h1
  simp only [↓rA, rB, Int.reduceEq, Int.reduceLE, Int.reduceLT, Int.reduceToNat, Nat.reduceAdd, Nat.reduceEqDiff, Nat.reduceLT, Nat.reduceLeDiff, Nat.reduceMul, Nat.reduceSub, reduceCtorEq, tbLO3, Tryd.results14]
  refine fun b2 h2 => ?_; replace h2 := newb h2; try simp only [Nb] at h2
  simp only [↓rA, rB, Int.reduceEq, Int.reduceLE, Int.reduceLT, Int.reduceToNat, Nat.reduceAdd, Nat.reduceEqDiff, Nat.reduceLT, Nat.reduceLeDiff, Nat.reduceMul, Nat.reduceSub, reduceCtorEq, tbLO3, Tryd.results14, h1, h2]
  refine OkF_of _ (flat_ok a b l m hu) ?_
  by_cases e0 : a = b
  case neg =>
    simp only [↓rA, rB, Int.reduceEq, Int.reduceLE, Int.reduceLT, Int.reduceToNat, Nat.reduceAdd, Nat.reduceEqDiff, Nat.reduceLT, Nat.reduceLeDiff, Nat.reduceMul, Nat.reduceSub, reduceCtorEq, tbLO3, Tryd.results14, h1, h2, decide_eq_false e0]
    exact ret_done (fb (no e0).symm)
  by_cases he : ¬ l.length = m.length
  · have he' : ¬ (l.length : Int) = m.length := by omega
    simp only [↓rA, rB, Int.reduceEq, Int.reduceLE, Int.reduceLT, Int.reduceToNat, Nat.reduceAdd, Nat.reduceEqDiff, Nat.reduceLT, Nat.reduceLeDiff, Nat.reduceMul, Nat.reduceSub, reduceCtorEq, tbLO3, Tryd.results14, h1, h2, decide_eq_true e0, List.length_map, he']
    exact ret_done (fb (no' fun e => he (by rw [e])).symm)
  have he' : (l.length : Int) = m.length := by omega
  simp only [↓rA, rB, Int.reduceEq, Int.reduceLE, Int.reduceLT, Int.reduceToNat, Nat.reduceAdd, Nat.reduceEqDiff, Nat.reduceLT, Nat.reduceLeDiff, Nat.reduceMul, Nat.reduceSub, reduceCtorEq, tbLO3, Tryd.results14, h1, h2, decide_eq_true e0, List.length_map, he']
  refine EX_for Ty.mixed (by kernel_rfl) m.length (fun i S => l.take i = m.take i ∧ S.boxes = [(b2, .c (cH b (vEs m))), (b1, .c (cH a (vEs l)))] ∧ S.rows = [] ∧ S.σ 2 = ptr b1 ∧ S.σ 3 = ptr b2 ∧ S.σ 5 = vint i) ⟨0, ?_⟩ (fun i S hi ⟨hq, gb, gr, g2, g3, g5⟩ => ?_) (fun S ⟨hq, gb, gr, g2, g3, g5⟩ => ?_)
  · simp only [↓rA, rB, Int.reduceEq, Int.reduceLE, Int.reduceLT, Int.reduceToNat, Nat.reduceAdd, Nat.reduceEqDiff, Nat.reduceLT, Nat.reduceLeDiff, Nat.reduceMul, Nat.reduceSub, reduceCtorEq, tbLO3, Tryd.results14, h1, h2]
    try exact rfl
  · have hwi := wrap_succ (i := i) (N := m.length) hi (by omega)
    have hil : i < l.length := by omega
    simp only [↓rA, rB, Int.reduceEq, Int.reduceLE, Int.reduceLT, Int.reduceToNat, Nat.reduceAdd, Nat.reduceEqDiff, Nat.reduceLT, Nat.reduceLeDiff, Nat.reduceMul, Nat.reduceSub, reduceCtorEq, tbLO3, Tryd.results14, gb, gr, g2, g3, g5, h1, h2, he', Int.ofNat_lt, hi, hil, List.length_map, getD_map _ _ _ hi, getD_map _ _ _ hil, cE_eq]
    have hc := ih l[i] (List.getElem_mem hil) (ha _ (List.getElem_mem hil)) m[i]
    simp only [vE, cE_eq] at hc
    refine CallV_of _ hc.v ?_
    by_cases e : l[i] = m[i]
    · simp only [↓rA, rB, Int.reduceEq, Int.reduceLE, Int.reduceLT, Int.reduceToNat, Nat.reduceAdd, Nat.reduceEqDiff, Nat.reduceLT, Nat.reduceLeDiff, Nat.reduceMul, Nat.reduceSub, reduceCtorEq, tbLO3, Tryd.results14, gb, gr, g2, g3, g5, hwi, decide_eq_true e]
      exact ⟨0, by rw [List.take_succ_eq_append_getElem hi, List.take_succ_eq_append_getElem hil, hq, e], rfl⟩
    · simp only [↓rA, rB, Int.reduceEq, Int.reduceLE, Int.reduceLT, Int.reduceToNat, Nat.reduceAdd, Nat.reduceEqDiff, Nat.reduceLT, Nat.reduceLeDiff, Nat.reduceMul, Nat.reduceSub, reduceCtorEq, tbLO3, Tryd.results14, gb, gr, g2, g3, g5, decide_eq_false e]
      refine ret_done (fb (no' fun e' => e ?_).symm)
      subst e'
      rfl
  · simp only [↓rA, rB, Int.reduceEq, Int.reduceLE, Int.reduceLT, Int.reduceToNat, Nat.reduceAdd, Nat.reduceEqDiff, Nat.reduceLT, Nat.reduceLeDiff, Nat.reduceMul, Nat.reduceSub, reduceCtorEq, tbLO3, Tryd.results14, gb, gr, g2, g3, g5, h1, h2, he', List.length_map, Int.ofNat_lt, Nat.lt_irrefl]
    rw [List.take_of_length_le (Nat.le_refl _), List.take_of_length_le (by omega)] at hq
    exact ret_done (fb (decide_eq_true (by rw [e0, hq])).symm)

set_option linter.defProp false in
def tbLO4 := (And.intro (And.intro (And.intro (And.intro (And.intro (And.intro Ty.sz3 (And.intro Ty.by3 Ty.ag3)) (And.intro Ty.zr3 (And.intro Ty.un3 Ty.sz4))) (And.intro (And.intro Ty.by4 (And.intro Ty.ag4 Ty.zr4)) (And.intro (And.intro Ty.un4 Ty.sz9) (And.intro Ty.by9 Ty.ag9)))) (And.intro (And.intro (And.intro Ty.zr9 (And.intro Ty.un9 Ty.sz23)) (And.intro Ty.by23 (And.intro Ty.ag23 Ty.zr23))) (And.intro (And.intro Ty.fl23_0 (And.intro Ty.pl23_0 Ty.fl23_1)) (And.intro (And.intro Ty.pl23_1 Ty.fl23_2) (And.intro Ty.pl23_2 Ty.sz24))))) (And.intro (And.intro (And.intro (And.intro Ty.by24 (And.intro Ty.ag24 Ty.zr24)) (And.intro Ty.un24 (And.intro Ty.sz26 Ty.by26))) (And.intro (And.intro Ty.ag26 (And.intro Ty.zr26 Ty.fl26_0)) (And.intro (And.intro Ty.pl26_0 Ty.fl26_1) (And.intro Ty.pl26_1 Ty.sz27)))) (And.intro (And.intro (And.intro Ty.by27 (And.intro Ty.ag27 Ty.zr27)) (And.intro Ty.un27 (And.intro Ty.sz29 Ty.by29))) (And.intro (And.intro Ty.ag29 (And.intro Ty.zr29 Ty.fl29_0)) (And.intro (And.intro Ty.pl29_0 Ty.fl29_1) (And.intro Ty.pl29_1 Ty.fl29_2)))))) (And.intro (And.intro (And.intro (And.intro (And.intro Ty.pl29_2 (And.intro Ty.fl29_3 Ty.pl29_3)) (And.intro Ty.fl29_4 (And.intro Ty.pl29_4 Ty.fl29_5))) (And.intro (And.intro Ty.pl29_5 (And.intro Ty.fl29_6 Ty.pl29_6)) (And.intro (And.intro Ty.fl29_7 Ty.pl29_7) (And.intro Ty.fl29_8 Ty.pl29_8)))) (And.intro (And.intro (And.intro Ty.sz41 (And.intro Ty.by41 Ty.ag41)) (And.intro Ty.zr41 (And.intro Ty.un41 Ty.sz43))) (And.intro (And.intro Ty.by43 (And.intro Ty.ag43 Ty.zr43)) (And.intro (And.intro Ty.fl43_0 Ty.pl43_0) (And.intro Ty.fl43_1 Ty.pl43_1))))) (And.intro (And.intro (And.intro (And.intro Ty.fl43_2 (And.intro Ty.pl43_2 Ty.fl43_3)) (And.intro Ty.pl43_3 (And.intro Ty.fl43_4 Ty.pl43_4))) (And.intro (And.intro Ty.fl43_5 (And.intro Ty.pl43_5 Ty.fl43_6)) (And.intro (And.intro Ty.pl43_6 Ty.fl43_7) (And.intro Ty.pl43_7 Ty.fl43_8)))) (And.intro (And.intro (And.intro Ty.pl43_8 (And.intro Ty.sz105 Ty.by105)) (And.intro (And.intro Ty.ag105 Ty.zr105) (And.intro Ty.fl105_0 Ty.pl105_0))) (And.intro (And.intro Ty.fl105_1 (And.intro Ty.pl105_1 Ty.eq23)) (And.intro (And.intro Ty.eq26 Ty.eq105) (And.intro Ty.cb14 Ty.cb24)))))))
theorem sameNodeR_ok (a b : Nd) (hf : FitN a) : OkP Tryd.prog 9 [.agg (cNd a), .agg (cNd b)] (vbool (decide (a = b))) := by
  have fb : ∀ {a b : Bool}, a = b → V.lit (.bool a) = vbool b := fun h => by rw [h]
  have hq := sameExprR_ok a.expr hf.1 b.expr
  simp only [vE, cE_eq] at hq
  simp only [cNd_eq]
  refine Ok.of_ex Ty.mixed Tryd.func9 rfl (by simp [Tryd.ntmps9]) (by kernel_rfl) fun F w0 I0 => ?_
  simp only [↓rA, rB, Int.reduceEq, Int.reduceLE, Int.reduceLT, Int.reduceToNat, Nat.reduceAdd, Nat.reduceEqDiff, Nat.reduceLT, Nat.reduceLeDiff, Nat.reduceMul, Nat.reduceSub, reduceCtorEq, tbLO4, Tryd.results9]
  refine fun b1 h1 => ?_; replace h1 := newb h1; try simp only [Nb] at h1
  simp only [↓rA, rB, Int.reduceEq, Int.reduceLE, Int.reduceLT, Int.reduceToNat, Nat.reduceAdd, Nat.reduceEqDiff, Nat.reduceLT, Nat.reduceLeDiff, Nat.reduceMul, Nat.reduceSub, reduceCtorEq, tbLO4, Tryd.results9]
  refine fun b2 h2 => ?_; replace h2 := newb h2; try simp only [Nb] at h2
  by_cases e0 : a.kind = b.kind
  case neg =>
    simp only [↓rA, rB, Int.reduceEq, Int.reduceLE, Int.reduceLT, Int.reduceToNat, Nat.reduceAdd, Nat.reduceEqDiff, Nat.reduceLT, Nat.reduceLeDiff, Nat.reduceMul, Nat.reduceSub, reduceCtorEq, tbLO4, Tryd.results9, h1, h2, e0]
    exact ret_done (fb (decide_eq_false fun e => e0 (by rw [e])).symm)
  by_cases e1 : a.table = b.table
  case neg =>
    simp only [↓rA, rB, Int.reduceEq, Int.reduceLE, Int.reduceLT, Int.reduceToNat, Nat.reduceAdd, Nat.reduceEqDiff, Nat.reduceLT, Nat.reduceLeDiff, Nat.reduceMul, Nat.reduceSub, reduceCtorEq, tbLO4, Tryd.results9, h1, h2, e0, e1]
    exact ret_done (fb (decide_eq_false fun e => e1 (by rw [e])).symm)
  by_cases e2 : a.op = b.op
  case neg =>
    simp only [↓rA, rB, Int.reduceEq, Int.reduceLE, Int.reduceLT, Int.reduceToNat, Nat.reduceAdd, Nat.reduceEqDiff, Nat.reduceLT, Nat.reduceLeDiff, Nat.reduceMul, Nat.reduceSub, reduceCtorEq, tbLO4, Tryd.results9, h1, h2, e0, e1, e2]
    exact ret_done (fb (decide_eq_false fun e => e2 (by rw [e])).symm)
  by_cases e3 : a.param = b.param
  case neg =>
    simp only [↓rA, rB, Int.reduceEq, Int.reduceLE, Int.reduceLT, Int.reduceToNat, Nat.reduceAdd, Nat.reduceEqDiff, Nat.reduceLT, Nat.reduceLeDiff, Nat.reduceMul, Nat.reduceSub, reduceCtorEq, tbLO4, Tryd.results9, h1, h2, e0, e1, e2, e3]
    exact ret_done (fb (decide_eq_false fun e => e3 (by rw [e])).symm)
  have v4 := winEqN a b
  have v5 := valEq a.val b.val
  by_cases e4 : a.wk = b.wk ∧ a.ws = b.ws
  case neg =>
    simp only [↓rA, rB, Int.reduceEq, Int.reduceLE, Int.reduceLT, Int.reduceToNat, Nat.reduceAdd, Nat.reduceEqDiff, Nat.reduceLT, Nat.reduceLeDiff, Nat.reduceMul, Nat.reduceSub, reduceCtorEq, tbLO4, Tryd.results9, h1, h2, e0, e1, e2, e3, e4, v4]
    exact ret_done (fb (decide_eq_false fun e => e4 (by rw [e]; exact ⟨rfl, rfl⟩)).symm)
  by_cases e5 : a.val = b.val
  case neg =>
    simp only [↓rA, rB, Int.reduceEq, Int.reduceLE, Int.reduceLT, Int.reduceToNat, Nat.reduceAdd, Nat.reduceEqDiff, Nat.reduceLT, Nat.reduceLeDiff, Nat.reduceMul, Nat.reduceSub, reduceCtorEq, tbLO4, Tryd.results9, h1, h2, e0, e1, e2, e3, e4, v4, e5, v5]
    exact ret_done (fb (decide_eq_false fun e => e5 (by rw [e])).symm)
  by_cases e6 : a.name = b.name
  case neg =>
    simp only [↓rA, rB, Int.reduceEq, Int.reduceLE, Int.reduceLT, Int.reduceToNat, Nat.reduceAdd, Nat.reduceEqDiff, Nat.reduceLT, Nat.reduceLeDiff, Nat.reduceMul, Nat.reduceSub, reduceCtorEq, tbLO4, Tryd.results9, h1, h2, e0, e1, e2, e3, e4, v4, e5, v5, e6]
    exact ret_done (fb (decide_eq_false fun e => e6 (by rw [e])).symm)
  simp only [↓rA, rB, Int.reduceEq, Int.reduceLE, Int.reduceLT, Int.reduceToNat, Nat.reduceAdd, Nat.reduceEqDiff, Nat.reduceLT, Nat.reduceLeDiff, Nat.reduceMul, Nat.reduceSub, reduceCtorEq, tbLO4, Tryd.results9, h1, h2, e0, e1, e2, e3, e4, v4, e5, v5, e6]
  refine OkF_of _ (sameInts_ok a.inn b.inn hf.2) ?_
  by_cases e7 : a.inn = b.inn
  case neg =>
    simp only [↓rA, rB, Int.reduceEq, Int.reduceLE, Int.reduceLT, Int.reduceToNat, Nat.reduceAdd, Nat.reduceEqDiff, Nat.reduceLT, Nat.reduceLeDiff, Nat.reduceMul, Nat.reduceSub, reduceCtorEq, tbLO4, Tryd.results9, h1, h2, e7]
    exact ret_done (fb (decide_eq_false fun e => e7 (by rw [e])).symm)
  simp only [↓rA, rB, Int.reduceEq, Int.reduceLE, Int.reduceLT, Int.reduceToNat, Nat.reduceAdd, Nat.reduceEqDiff, Nat.reduceLT, Nat.reduceLeDiff, Nat.reduceMul, Nat.reduceSub, reduceCtorEq, tbLO4, Tryd.results9, h1, h2, e7]
  refine OkF_of _ hq ?_
  simp only [↓rA, rB, Int.reduceEq, Int.reduceLE, Int.reduceLT, Int.reduceToNat, Nat.reduceAdd, Nat.reduceEqDiff, Nat.reduceLT, Nat.reduceLeDiff, Nat.reduceMul, Nat.reduceSub, reduceCtorEq, tbLO4, Tryd.results9]
  refine ret_done (fb ?_)
  rw [Bool.eq_iff_iff, decide_eq_true_eq, decide_eq_true_eq, nd_ext]
  exact ⟨fun e => ⟨e0, e1, e2, e3, e4, e5, e6, e7, e⟩, fun e => e.2.2.2.2.2.2.2.2⟩

end Go.Proofs.YtphkmlogjgeipaaDoor
/- Contracts of lowering, part q: the law's small functions. -/
set_option linter.unusedSimpArgs false
set_option maxRecDepth 100000
namespace Go.Lo
open Go.VL Go.Ar
abbrev hTT : Hd := { hd0 1 with val := ⟨1, 1, es0⟩ }
abbrev tt : E := .mk hTT []
abbrev sOrders : Str := ⟨#[111, 114, 100, 101, 114, 115]⟩
abbrev overE (op : Str) (x : E) : E := .mk ⟨5, op, es0, sOrders, val0, [], 0, 1, 0⟩ [x, tt]
abbrev binE (op : Str) (x y : E) : E := .mk { hd0 7 with op := op } [x, y]
mutual
def cntN : E → Nat
  | .mk h l => if h.kind = 5 then 1 else 1 + cntNs l
def cntNs : List E → Nat
  | [] => 0
  | x :: r => cntN x + cntNs r
end
mutual
def cntM : E → Nat
  | .mk h l => if h.kind = 5 then 1 else cntMs l
def cntMs : List E → Nat
  | [] => 0
  | x :: r => cntM x + cntMs r
end
theorem cntN_mk (h : Hd) (l : List E) : cntN (.mk h l) = if h.kind = 5 then 1 else 1 + cntNs l := by rw [cntN]
theorem cntM_mk (h : Hd) (l : List E) : cntM (.mk h l) = if h.kind = 5 then 1 else cntMs l := by rw [cntM]
theorem cntNs_append : ∀ (l m : List E), cntNs (l ++ m) = cntNs l + cntNs m
  | [], m => by simp [cntNs]
  | x :: r, m => by simp only [List.cons_append, cntNs, cntNs_append r m]; omega
theorem cntMs_append : ∀ (l m : List E), cntMs (l ++ m) = cntMs l + cntMs m
  | [], m => by simp [cntMs]
  | x :: r, m => by simp only [List.cons_append, cntMs, cntMs_append r m]; omega
theorem cnt_le (x : E) : cntN x ≤ sizeE x ∧ cntM x ≤ sizeE x := by
  induction x using E.ind with
  | h hd l ih =>
  have : cntNs l ≤ sizeEs l ∧ cntMs l ≤ sizeEs l := by
    clear hd
    induction l with
    | nil => simp [cntNs, cntMs]
    | cons x r ihr =>
      have h1 := ih x (by simp)
      have h2 := ihr fun y hy => ih y (List.mem_cons_of_mem _ hy)
      simp only [cntNs, cntMs, sizeEs]
      omega
  rw [cntN_mk, cntM_mk, sizeE_mk]
  split <;> omega
end Go.Lo
namespace Go.Proofs.YtphkmlogjgeipaaDoor
open Go.VL Go.Ar Go.Lo Go.Proofs.YtphkmlogjgeipaaDoor

theorem leE {h : Hd} {u a : V} {l : List E} (hu : Le u (vFacs h.unit)) (ha : Le a (vEs l)) : Le (.agg [vint h.kind, vstr h.op, vstr h.name, vstr h.table, vint h.val.kind, vint h.val.n, vstr h.val.s, u, vint h.param, vint h.wk, vint h.ws, a]) (vE (.mk h l)) := by
  rw [vE, cE_mk]
  exact leAgg (.cons (Le.refl _) (.cons (Le.refl _) (.cons (Le.refl _) (.cons (Le.refl _) (.cons (Le.refl _) (.cons (Le.refl _) (.cons (Le.refl _) (.cons hu (.cons (Le.refl _) (.cons (Le.refl _) (.cons (Le.refl _) (.cons ha .nil))))))))))))
set_option linter.defProp false in
def tbLY0 := (And.intro (And.intro (And.intro (And.intro (And.intro (And.intro Ty.sz3 Ty.by3) (And.intro Ty.ag3 Ty.zr3)) (And.intro (And.intro Ty.un3 Ty.sz9) (And.intro Ty.by9 Ty.ag9))) (And.intro (And.intro (And.intro Ty.zr9 Ty.un9) (And.intro Ty.sz23 Ty.by23)) (And.intro (And.intro Ty.ag23 Ty.zr23) (And.intro Ty.fl23_0 (And.intro Ty.pl23_0 Ty.fl23_1))))) (And.intro (And.intro (And.intro (And.intro Ty.pl23_1 Ty.fl23_2) (And.intro Ty.pl23_2 Ty.sz24)) (And.intro (And.intro Ty.by24 Ty.ag24) (And.intro Ty.zr24 (And.intro Ty.un24 Ty.sz26)))) (And.intro (And.intro (And.intro Ty.by26 Ty.ag26) (And.intro Ty.zr26 Ty.fl26_0)) (And.intro (And.intro Ty.pl26_0 Ty.fl26_1) (And.intro Ty.pl26_1 (And.intro Ty.sz27 Ty.by27)))))) (And.intro (And.intro (And.intro (And.intro (And.intro Ty.ag27 Ty.zr27) (And.intro Ty.un27 Ty.sz29)) (And.intro (And.intro Ty.by29 Ty.ag29) (And.intro Ty.zr29 (And.intro Ty.fl29_0 Ty.pl29_0)))) (And.intro (And.intro (And.intro Ty.fl29_1 Ty.pl29_1) (And.intro Ty.fl29_2 Ty.pl29_2)) (And.intro (And.intro Ty.fl29_3 Ty.pl29_3) (And.intro Ty.fl29_4 (And.intro Ty.pl29_4 Ty.fl29_5))))) (And.intro (And.intro (And.intro (And.intro Ty.pl29_5 Ty.fl29_6) (And.intro Ty.pl29_6 Ty.fl29_7)) (And.intro (And.intro Ty.pl29_7 Ty.fl29_8) (And.intro Ty.pl29_8 (And.intro Ty.sz105 Ty.by105)))) (And.intro (And.intro (And.intro Ty.ag105 Ty.zr105) (And.intro Ty.fl105_0 Ty.pl105_0)) (And.intro (And.intro Ty.fl105_1 Ty.pl105_1) (And.intro Ty.eq23 (And.intro Ty.eq26 Ty.eq105)))))))
theorem true_ok : OkP Tryd.prog 17 [] (vE tt) := by
  refine Ok.of_ex Ty.mixed Tryd.func17 rfl (by simp [Tryd.ntmps17]) (by kernel_rfl) fun F w0 I0 => ?_
  simp only [↓rA, rB, Int.reduceEq, Int.reduceLE, Int.reduceLT, Int.reduceToNat, Nat.reduceAdd, Nat.reduceEqDiff, Nat.reduceLT, Nat.reduceLeDiff, Nat.reduceMul, Nat.reduceSub, reduceCtorEq, tbLY0, Tryd.results17]
  refine fun b0 h0 => ?_; replace h0 := newb h0; try simp only [Nb] at h0
  simp only [↓rA, rB, Int.reduceEq, Int.reduceLE, Int.reduceLT, Int.reduceToNat, Nat.reduceAdd, Nat.reduceEqDiff, Nat.reduceLT, Nat.reduceLeDiff, Nat.reduceMul, Nat.reduceSub, reduceCtorEq, tbLY0, Tryd.results17, h0]
  exact ⟨_, [], [], leE (h := hTT) (l := []) (Le.nil 2) (Le.nil 12), List.nil_sublist _, List.nil_sublist _, rfl, rfl, rfl⟩
set_option linter.defProp false in
def tbLY1 := (And.intro (And.intro (And.intro (And.intro (And.intro (And.intro Ty.sz3 Ty.by3) (And.intro Ty.ag3 Ty.zr3)) (And.intro (And.intro Ty.un3 Ty.sz9) (And.intro Ty.by9 Ty.ag9))) (And.intro (And.intro (And.intro Ty.zr9 Ty.un9) (And.intro Ty.sz23 Ty.by23)) (And.intro (And.intro Ty.ag23 Ty.zr23) (And.intro Ty.fl23_0 (And.intro Ty.pl23_0 Ty.fl23_1))))) (And.intro (And.intro (And.intro (And.intro Ty.pl23_1 Ty.fl23_2) (And.intro Ty.pl23_2 Ty.sz24)) (And.intro (And.intro Ty.by24 Ty.ag24) (And.intro Ty.zr24 (And.intro Ty.un24 Ty.sz26)))) (And.intro (And.intro (And.intro Ty.by26 Ty.ag26) (And.intro Ty.zr26 Ty.fl26_0)) (And.intro (And.intro Ty.pl26_0 Ty.fl26_1) (And.intro Ty.pl26_1 (And.intro Ty.sz27 Ty.by27)))))) (And.intro (And.intro (And.intro (And.intro (And.intro Ty.ag27 Ty.zr27) (And.intro Ty.un27 Ty.sz29)) (And.intro (And.intro Ty.by29 Ty.ag29) (And.intro Ty.zr29 (And.intro Ty.fl29_0 Ty.pl29_0)))) (And.intro (And.intro (And.intro Ty.fl29_1 Ty.pl29_1) (And.intro Ty.fl29_2 Ty.pl29_2)) (And.intro (And.intro Ty.fl29_3 Ty.pl29_3) (And.intro Ty.fl29_4 (And.intro Ty.pl29_4 Ty.fl29_5))))) (And.intro (And.intro (And.intro (And.intro Ty.pl29_5 Ty.fl29_6) (And.intro Ty.pl29_6 Ty.fl29_7)) (And.intro (And.intro Ty.pl29_7 Ty.fl29_8) (And.intro Ty.pl29_8 (And.intro Ty.sz105 Ty.by105)))) (And.intro (And.intro (And.intro Ty.ag105 Ty.zr105) (And.intro Ty.fl105_0 Ty.pl105_0)) (And.intro (And.intro Ty.fl105_1 Ty.pl105_1) (And.intro Ty.eq23 (And.intro Ty.eq26 Ty.eq105)))))))
theorem binary_ok (op : Str) (x y : E) : OkP Tryd.prog 10 [vstr op, vE x, vE y] (vE (binE op x y)) := by
  simp only [vE, cE_eq x, cE_eq y]
  refine Ok.of_ex Ty.mixed Tryd.func10 rfl (by simp [Tryd.ntmps10]) (by kernel_rfl) fun F w0 I0 => ?_
  simp only [↓rA, rB, Int.reduceEq, Int.reduceLE, Int.reduceLT, Int.reduceToNat, Nat.reduceAdd, Nat.reduceEqDiff, Nat.reduceLT, Nat.reduceLeDiff, Nat.reduceMul, Nat.reduceSub, reduceCtorEq, tbLY1, Tryd.results10]
  refine fun b4 h4 => ?_; replace h4 := newb h4; try simp only [Nb] at h4
  simp only [↓rA, rB, Int.reduceEq, Int.reduceLE, Int.reduceLT, Int.reduceToNat, Nat.reduceAdd, Nat.reduceEqDiff, Nat.reduceLT, Nat.reduceLeDiff, Nat.reduceMul, Nat.reduceSub, reduceCtorEq, tbLY1, Tryd.results10, h4]
  refine fun b5 h5 => ?_; replace h5 := newb h5; try simp only [Nb] at h5
  simp only [↓rA, rB, Int.reduceEq, Int.reduceLE, Int.reduceLT, Int.reduceToNat, Nat.reduceAdd, Nat.reduceEqDiff, Nat.reduceLT, Nat.reduceLeDiff, Nat.reduceMul, Nat.reduceSub, reduceCtorEq, tbLY1, Tryd.results10, h4, h5]
  refine fun b6 h6 => ?_; replace h6 := newb h6; try simp only [Nb] at h6
  simp only [↓rA, rB, Int.reduceEq, Int.reduceLE, Int.reduceLT, Int.reduceToNat, Nat.reduceAdd, Nat.reduceEqDiff, Nat.reduceLT, Nat.reduceLeDiff, Nat.reduceMul, Nat.reduceSub, reduceCtorEq, tbLY1, Tryd.results10, h4, h5, h6]
  refine fun y' => ⟨_, [], [], leE (h := { hd0 7 with op := op }) (l := [x, y]) (Le.nil 2) ?_, List.nil_sublist _, List.nil_sublist _, rfl, rfl, rfl⟩
  simp only [vEs, List.map_cons, List.map_nil, cE_eq x, cE_eq y]
  exact Le.list _ _ _
set_option linter.defProp false in
def tbLY2 := (And.intro (And.intro (And.intro (And.intro (And.intro (And.intro Ty.sz3 Ty.by3) (And.intro Ty.ag3 Ty.zr3)) (And.intro (And.intro Ty.un3 Ty.sz9) (And.intro Ty.by9 (And.intro Ty.ag9 Ty.zr9)))) (And.intro (And.intro (And.intro Ty.un9 Ty.sz23) (And.intro Ty.by23 Ty.ag23)) (And.intro (And.intro Ty.zr23 Ty.fl23_0) (And.intro Ty.pl23_0 (And.intro Ty.fl23_1 Ty.pl23_1))))) (And.intro (And.intro (And.intro (And.intro Ty.fl23_2 Ty.pl23_2) (And.intro Ty.sz24 Ty.by24)) (And.intro (And.intro Ty.ag24 Ty.zr24) (And.intro Ty.un24 (And.intro Ty.sz26 Ty.by26)))) (And.intro (And.intro (And.intro Ty.ag26 Ty.zr26) (And.intro Ty.fl26_0 Ty.pl26_0)) (And.intro (And.intro Ty.fl26_1 Ty.pl26_1) (And.intro Ty.sz27 (And.intro Ty.by27 Ty.ag27)))))) (And.intro (And.intro (And.intro (And.intro (And.intro Ty.zr27 Ty.un27) (And.intro Ty.sz29 Ty.by29)) (And.intro (And.intro Ty.ag29 Ty.zr29) (And.intro Ty.fl29_0 (And.intro Ty.pl29_0 Ty.fl29_1)))) (And.intro (And.intro (And.intro Ty.pl29_1 Ty.fl29_2) (And.intro Ty.pl29_2 Ty.fl29_3)) (And.intro (And.intro Ty.pl29_3 Ty.fl29_4) (And.intro Ty.pl29_4 (And.intro Ty.fl29_5 Ty.pl29_5))))) (And.intro (And.intro (And.intro (And.intro Ty.fl29_6 Ty.pl29_6) (And.intro Ty.fl29_7 Ty.pl29_7)) (And.intro (And.intro Ty.fl29_8 Ty.pl29_8) (And.intro Ty.sz105 (And.intro Ty.by105 Ty.ag105)))) (And.intro (And.intro (And.intro Ty.zr105 Ty.fl105_0) (And.intro Ty.pl105_0 Ty.fl105_1)) (And.intro (And.intro Ty.pl105_1 Ty.eq23) (And.intro Ty.eq26 (And.intro Ty.eq105 Ty.cb17)))))))
theorem over_ok (op : Str) (x : E) : OkP Tryd.prog 16 [vstr op, vE x] (vE (overE op x)) := by
  have ht := true_ok
  simp only [vE, cE_eq x, cE_eq tt] at ht ⊢
  refine Ok.of_ex Ty.mixed Tryd.func16 rfl (by simp [Tryd.ntmps16]) (by kernel_rfl) fun F w0 I0 => ?_
  simp only [↓rA, rB, Int.reduceEq, Int.reduceLE, Int.reduceLT, Int.reduceToNat, Nat.reduceAdd, Nat.reduceEqDiff, Nat.reduceLT, Nat.reduceLeDiff, Nat.reduceMul, Nat.reduceSub, reduceCtorEq, tbLY2, Tryd.results16]
  refine fun b3 h3 => ?_; replace h3 := newb h3; try simp only [Nb] at h3
  simp only [↓rA, rB, Int.reduceEq, Int.reduceLE, Int.reduceLT, Int.reduceToNat, Nat.reduceAdd, Nat.reduceEqDiff, Nat.reduceLT, Nat.reduceLeDiff, Nat.reduceMul, Nat.reduceSub, reduceCtorEq, tbLY2, Tryd.results16, h3]
  refine fun b4 h4 => ?_; replace h4 := newb h4; try simp only [Nb] at h4
  simp only [↓rA, rB, Int.reduceEq, Int.reduceLE, Int.reduceLT, Int.reduceToNat, Nat.reduceAdd, Nat.reduceEqDiff, Nat.reduceLT, Nat.reduceLeDiff, Nat.reduceMul, Nat.reduceSub, reduceCtorEq, tbLY2, Tryd.results16, h3, h4]
  refine CallV_of _ ht.v ?_
  simp only [↓rA, rB, Int.reduceEq, Int.reduceLE, Int.reduceLT, Int.reduceToNat, Nat.reduceAdd, Nat.reduceEqDiff, Nat.reduceLT, Nat.reduceLeDiff, Nat.reduceMul, Nat.reduceSub, reduceCtorEq, tbLY2, Tryd.results16, h3, h4]
  refine ⟨_, [], [], leE (h := ⟨5, op, es0, sOrders, val0, [], 0, 1, 0⟩) (l := [x, tt]) (Le.nil 2) ?_, List.nil_sublist _, List.nil_sublist _, rfl, rfl, rfl⟩
  simp only [vEs, List.map_cons, List.map_nil, cE_eq x, cE_eq tt]
  first | exact Le.refl _ | exact Le.list _ _ _
set_option linter.defProp false in
def tbLY3 := (And.intro (And.intro (And.intro (And.intro (And.intro (And.intro Ty.sz3 Ty.by3) (And.intro Ty.ag3 (And.intro Ty.zr3 Ty.un3))) (And.intro (And.intro Ty.sz4 Ty.by4) (And.intro Ty.ag4 (And.intro Ty.zr4 Ty.un4)))) (And.intro (And.intro (And.intro Ty.sz9 Ty.by9) (And.intro Ty.ag9 (And.intro Ty.zr9 Ty.un9))) (And.intro (And.intro Ty.sz23 Ty.by23) (And.intro Ty.ag23 (And.intro Ty.zr23 Ty.fl23_0))))) (And.intro (And.intro (And.intro (And.intro Ty.pl23_0 Ty.fl23_1) (And.intro Ty.pl23_1 (And.intro Ty.fl23_2 Ty.pl23_2))) (And.intro (And.intro Ty.sz24 Ty.by24) (And.intro Ty.ag24 (And.intro Ty.zr24 Ty.un24)))) (And.intro (And.intro (And.intro Ty.sz26 Ty.by26) (And.intro Ty.ag26 (And.intro Ty.zr26 Ty.fl26_0))) (And.intro (And.intro Ty.pl26_0 Ty.fl26_1) (And.intro Ty.pl26_1 (And.intro Ty.sz27 Ty.by27)))))) (And.intro (And.intro (And.intro (And.intro (And.intro Ty.ag27 Ty.zr27) (And.intro Ty.un27 (And.intro Ty.sz29 Ty.by29))) (And.intro (And.intro Ty.ag29 Ty.zr29) (And.intro Ty.fl29_0 (And.intro Ty.pl29_0 Ty.fl29_1)))) (And.intro (And.intro (And.intro Ty.pl29_1 Ty.fl29_2) (And.intro Ty.pl29_2 (And.intro Ty.fl29_3 Ty.pl29_3))) (And.intro (And.intro Ty.fl29_4 Ty.pl29_4) (And.intro Ty.fl29_5 (And.intro Ty.pl29_5 Ty.fl29_6))))) (And.intro (And.intro (And.intro (And.intro Ty.pl29_6 Ty.fl29_7) (And.intro Ty.pl29_7 (And.intro Ty.fl29_8 Ty.pl29_8))) (And.intro (And.intro Ty.sz37 Ty.by37) (And.intro Ty.ag37 (And.intro Ty.sz105 Ty.by105)))) (And.intro (And.intro (And.intro Ty.ag105 Ty.zr105) (And.intro Ty.fl105_0 (And.intro Ty.pl105_0 Ty.fl105_1))) (And.intro (And.intro Ty.pl105_1 Ty.eq23) (And.intro Ty.eq26 (And.intro Ty.eq105 Ty.cb8)))))))
theorem count_ok : ∀ (x : E), Fit x → sizeE x ≤ big → OkP Tryd.prog 8 [vE x] (.tup [vint (cntN x), vint (cntM x)]) := by
  intro x
  induction x using E.ind with
  | h hd l ih =>
  intro hf hs
  have hl := hf.len
  have ha := hf.args
  simp only [E.args, big] at hl ha hs
  have hle := cnt_le (.mk hd l)
  rw [vE, cE_mk]
  rw [cntN_mk, cntM_mk] at hle ⊢
  refine Ok.of_ex Ty.mixed Tryd.func8 rfl (by simp [Tryd.ntmps8]) (by kernel_rfl) fun F w0 I0 => ?_
  simp only [↓rA, rB, Int.reduceEq, Int.reduceLE, Int.reduceLT, Int.reduceToNat, Nat.reduceAdd, Nat.reduceEqDiff, Nat.reduceLT, Nat.reduceLeDiff, Nat.reduceMul, Nat.reduceSub, reduceCtorEq, tbLY3, Tryd.results8]
  refine fun b1 h1 => ?_; replace h1 := newb h1; try simp only [Nb] at h1
  by_cases e : hd.kind = 5
  · rw [if_pos e, if_pos e]
    simp only [↓rA, rB, Int.reduceEq, Int.reduceLE, Int.reduceLT, Int.reduceToNat, Nat.reduceAdd, Nat.reduceEqDiff, Nat.reduceLT, Nat.reduceLeDiff, Nat.reduceMul, Nat.reduceSub, reduceCtorEq, tbLY3, Tryd.results8, h1, e]
    exact ret_done rfl
  rw [if_neg e, if_neg e] at hle ⊢
  have hsz := sizeE_mk hd l
  simp only [↓rA, rB, Int.reduceEq, Int.reduceLE, Int.reduceLT, Int.reduceToNat, Nat.reduceAdd, Nat.reduceEqDiff, Nat.reduceLT, Nat.reduceLeDiff, Nat.reduceMul, Nat.reduceSub, reduceCtorEq, tbLY3, Tryd.results8, h1, e]
  refine EX_for Ty.mixed (by kernel_rfl) l.length (fun i S => S.boxes = [(b1, .c (cH hd (vEs l)))] ∧ S.rows = [] ∧ S.σ 1 = ptr b1 ∧ S.σ 4 = vint ((1 + cntNs (l.take i) : Nat) : Int) ∧ S.σ 5 = vint (cntMs (l.take i)) ∧ S.σ 6 = vint i) ⟨0, ?_⟩ (fun i S hi ⟨gb, gr, g1, g4, g5, g6⟩ => ?_) (fun S ⟨gb, gr, g1, g4, g5, g6⟩ => ?_)
  · simp only [↓rA, rB, Int.reduceEq, Int.reduceLE, Int.reduceLT, Int.reduceToNat, Nat.reduceAdd, Nat.reduceEqDiff, Nat.reduceLT, Nat.reduceLeDiff, Nat.reduceMul, Nat.reduceSub, reduceCtorEq, tbLY3, Tryd.results8, h1, cntNs, cntMs]
    exact rfl
  · have hwi := wrap_succ (i := i) (N := l.length) hi (by omega)
    have hx := List.getElem_mem hi
    have hsx : sizeE l[i] ≤ sizeEs l := sizeEs_mem hx
    have hc := ih l[i] hx (ha _ hx) (by unfold big; omega)
    rw [vE, cE_eq] at hc
    simp only [↓rA, rB, Int.reduceEq, Int.reduceLE, Int.reduceLT, Int.reduceToNat, Nat.reduceAdd, Nat.reduceEqDiff, Nat.reduceLT, Nat.reduceLeDiff, Nat.reduceMul, Nat.reduceSub, reduceCtorEq, tbLY3, Tryd.results8, gb, gr, g1, g4, g5, g6, h1, Int.ofNat_lt, hi, List.length_map, getD_map _ _ _ hi, cE_eq]
    refine OkF_of _ hc ?_
    have e1 : cntNs (l.take (i + 1)) = cntNs (l.take i) + cntN l[i] := by
      rw [List.take_succ_eq_append_getElem hi, cntNs_append]; simp [cntNs]
    have e2 : cntMs (l.take (i + 1)) = cntMs (l.take i) + cntM l[i] := by
      rw [List.take_succ_eq_append_getElem hi, cntMs_append]; simp [cntMs]
    have e3 : cntNs (l.take (i + 1)) + cntNs (l.drop (i + 1)) = cntNs l := by rw [← cntNs_append, List.take_append_drop]
    have e4 : cntMs (l.take (i + 1)) + cntMs (l.drop (i + 1)) = cntMs l := by rw [← cntMs_append, List.take_append_drop]
    simp only [↓rA, rB, Int.reduceEq, Int.reduceLE, Int.reduceLT, Int.reduceToNat, Nat.reduceAdd, Nat.reduceEqDiff, Nat.reduceLT, Nat.reduceLeDiff, Nat.reduceMul, Nat.reduceSub, reduceCtorEq, tbLY3, Tryd.results8, gb, gr, g1, g4, g5, g6, h1, hwi]
    refine ⟨0, rfl, ?_, ?_⟩
    · rw [wrap_id (by omega) (by omega), e1]; congr 2; omega
    · rw [wrap_id (by omega) (by omega), e2]; congr 2
  · rw [List.take_of_length_le (Nat.le_refl _)] at g4 g5
    simp only [↓rA, rB, Int.reduceEq, Int.reduceLE, Int.reduceLT, Int.reduceToNat, Nat.reduceAdd, Nat.reduceEqDiff, Nat.reduceLT, Nat.reduceLeDiff, Nat.reduceMul, Nat.reduceSub, reduceCtorEq, tbLY3, Tryd.results8, gb, gr, g1, g4, g5, g6, h1, Int.ofNat_lt, Nat.lt_irrefl, List.length_map]
    exact ret_done rfl
set_option linter.defProp false in
def tbLY4 := (And.intro (And.intro (And.intro (And.intro (And.intro (And.intro Ty.sz3 (And.intro Ty.by3 Ty.ag3)) (And.intro (And.intro Ty.zr3 Ty.un3) (And.intro Ty.sz4 Ty.by4))) (And.intro (And.intro Ty.ag4 (And.intro Ty.zr4 Ty.un4)) (And.intro (And.intro Ty.sz9 Ty.by9) (And.intro Ty.ag9 Ty.zr9)))) (And.intro (And.intro (And.intro Ty.un9 (And.intro Ty.sz23 Ty.by23)) (And.intro (And.intro Ty.ag23 Ty.zr23) (And.intro Ty.fl23_0 Ty.pl23_0))) (And.intro (And.intro Ty.fl23_1 (And.intro Ty.pl23_1 Ty.fl23_2)) (And.intro (And.intro Ty.pl23_2 Ty.sz24) (And.intro Ty.by24 Ty.ag24))))) (And.intro (And.intro (And.intro (And.intro Ty.zr24 (And.intro Ty.un24 Ty.sz26)) (And.intro (And.intro Ty.by26 Ty.ag26) (And.intro Ty.zr26 Ty.fl26_0))) (And.intro (And.intro Ty.pl26_0 (And.intro Ty.fl26_1 Ty.pl26_1)) (And.intro (And.intro Ty.sz27 Ty.by27) (And.intro Ty.ag27 Ty.zr27)))) (And.intro (And.intro (And.intro Ty.un27 (And.intro Ty.sz29 Ty.by29)) (And.intro (And.intro Ty.ag29 Ty.zr29) (And.intro Ty.fl29_0 Ty.pl29_0))) (And.intro (And.intro (And.intro Ty.fl29_1 Ty.pl29_1) (And.intro Ty.fl29_2 Ty.pl29_2)) (And.intro (And.intro Ty.fl29_3 Ty.pl29_3) (And.intro Ty.fl29_4 Ty.pl29_4)))))) (And.intro (And.intro (And.intro (And.intro (And.intro Ty.fl29_5 (And.intro Ty.pl29_5 Ty.fl29_6)) (And.intro (And.intro Ty.pl29_6 Ty.fl29_7) (And.intro Ty.pl29_7 Ty.fl29_8))) (And.intro (And.intro Ty.pl29_8 (And.intro Ty.sz31 Ty.by31)) (And.intro (And.intro Ty.ag31 Ty.zr31) (And.intro Ty.un31 Ty.sz33)))) (And.intro (And.intro (And.intro Ty.by33 (And.intro Ty.ag33 Ty.zr33)) (And.intro (And.intro Ty.fl33_0 Ty.pl33_0) (And.intro Ty.sz41 Ty.by41))) (And.intro (And.intro (And.intro Ty.ag41 Ty.zr41) (And.intro Ty.un41 Ty.sz43)) (And.intro (And.intro Ty.by43 Ty.ag43) (And.intro Ty.zr43 Ty.fl43_0))))) (And.intro (And.intro (And.intro (And.intro Ty.pl43_0 (And.intro Ty.fl43_1 Ty.pl43_1)) (And.intro (And.intro Ty.fl43_2 Ty.pl43_2) (And.intro Ty.fl43_3 Ty.pl43_3))) (And.intro (And.intro Ty.fl43_4 (And.intro Ty.pl43_4 Ty.fl43_5)) (And.intro (And.intro Ty.pl43_5 Ty.fl43_6) (And.intro Ty.pl43_6 Ty.fl43_7)))) (And.intro (And.intro (And.intro Ty.pl43_7 (And.intro Ty.fl43_8 Ty.pl43_8)) (And.intro (And.intro Ty.sz105 Ty.by105) (And.intro Ty.ag105 Ty.zr105))) (And.intro (And.intro (And.intro Ty.fl105_0 Ty.pl105_0) (And.intro Ty.fl105_1 Ty.pl105_1)) (And.intro (And.intro Ty.eq23 Ty.eq26) (And.intro Ty.eq105 Ty.cb9)))))))
theorem sameG_ok (u v : List Nd) (hu : u.length ≤ big) (hf : ∀ n ∈ u, FitN n) : OkP Tryd.prog 11 [vG u, vG v] (vbool (decide (u = v))) := by
  have fb : ∀ {a b : Bool}, a = b → V.lit (.bool a) = vbool b := fun h => by rw [h]
  unfold big at hu
  refine Ok.of_ex Ty.mixed Tryd.func11 rfl (by simp [Tryd.ntmps11]) (by kernel_rfl) fun F w0 I0 => ?_
  simp only [↓rA, rB, Int.reduceEq, Int.reduceLE, Int.reduceLT, Int.reduceToNat, Nat.reduceAdd, Nat.reduceEqDiff, Nat.reduceLT, Nat.reduceLeDiff, Nat.reduceMul, Nat.reduceSub, reduceCtorEq, tbLY4, Tryd.results11]
  refine fun b2 h2 => ?_; replace h2 := newb h2; try simp only [Nb] at h2
  simp only [↓rA, rB, Int.reduceEq, Int.reduceLE, Int.reduceLT, Int.reduceToNat, Nat.reduceAdd, Nat.reduceEqDiff, Nat.reduceLT, Nat.reduceLeDiff, Nat.reduceMul, Nat.reduceSub, reduceCtorEq, tbLY4, Tryd.results11, h2]
  refine fun b3 h3 => ?_; replace h3 := newb h3; try simp only [Nb] at h3
  by_cases hl : ¬ u.length = v.length
  · have hl' : ¬ (u.length : Int) = v.length := by omega
    simp only [↓rA, rB, Int.reduceEq, Int.reduceLE, Int.reduceLT, Int.reduceToNat, Nat.reduceAdd, Nat.reduceEqDiff, Nat.reduceLT, Nat.reduceLeDiff, Nat.reduceMul, Nat.reduceSub, reduceCtorEq, tbLY4, Tryd.results11, h2, h3, List.length_map, hl']
    exact ret_done (fb (decide_eq_false fun e => hl (by rw [e])).symm)
  have hl' : (u.length : Int) = v.length := by omega
  have hl : u.length = v.length := by omega
  simp only [↓rA, rB, Int.reduceEq, Int.reduceLE, Int.reduceLT, Int.reduceToNat, Nat.reduceAdd, Nat.reduceEqDiff, Nat.reduceLT, Nat.reduceLeDiff, Nat.reduceMul, Nat.reduceSub, reduceCtorEq, tbLY4, Tryd.results11, h2, h3, List.length_map, hl']
  refine EX_for Ty.mixed (by kernel_rfl) v.length (fun i S => u.take i = v.take i ∧ S.boxes = [(b3, .c [vNds v]), (b2, .c [vNds u])] ∧ S.rows = [] ∧ S.σ 2 = ptr b2 ∧ S.σ 3 = ptr b3 ∧ S.σ 5 = vint i) ⟨0, ?_⟩ (fun i S hi ⟨hq, gb, gr, g2, g3, g5⟩ => ?_) (fun S ⟨hq, gb, gr, g2, g3, g5⟩ => ?_)
  · simp only [↓rA, rB, Int.reduceEq, Int.reduceLE, Int.reduceLT, Int.reduceToNat, Nat.reduceAdd, Nat.reduceEqDiff, Nat.reduceLT, Nat.reduceLeDiff, Nat.reduceMul, Nat.reduceSub, reduceCtorEq, tbLY4, Tryd.results11, h2, h3, List.length_map, hl']
    try exact rfl
  · have hwi := wrap_succ (i := i) (N := v.length) hi (by omega)
    have hiu : i < u.length := by omega
    have hc := sameNodeR_ok u[i] v[i] (hf _ (List.getElem_mem hiu))
    simp only [cNd_eq] at hc
    simp only [↓rA, rB, Int.reduceEq, Int.reduceLE, Int.reduceLT, Int.reduceToNat, Nat.reduceAdd, Nat.reduceEqDiff, Nat.reduceLT, Nat.reduceLeDiff, Nat.reduceMul, Nat.reduceSub, reduceCtorEq, tbLY4, Tryd.results11, gb, gr, g2, g3, g5, h2, h3, hl', Int.ofNat_lt, hi, hiu, List.length_map, getD_map _ _ _ hi, getD_map _ _ _ hiu, cNd_eq]
    refine CallV_of _ hc.v ?_
    by_cases e : u[i] = v[i]
    · simp only [↓rA, rB, Int.reduceEq, Int.reduceLE, Int.reduceLT, Int.reduceToNat, Nat.reduceAdd, Nat.reduceEqDiff, Nat.reduceLT, Nat.reduceLeDiff, Nat.reduceMul, Nat.reduceSub, reduceCtorEq, tbLY4, Tryd.results11, gb, gr, g2, g3, g5, e, hwi]
      exact ⟨0, by rw [List.take_succ_eq_append_getElem hi, List.take_succ_eq_append_getElem hiu, hq, e], rfl⟩
    · simp only [↓rA, rB, Int.reduceEq, Int.reduceLE, Int.reduceLT, Int.reduceToNat, Nat.reduceAdd, Nat.reduceEqDiff, Nat.reduceLT, Nat.reduceLeDiff, Nat.reduceMul, Nat.reduceSub, reduceCtorEq, tbLY4, Tryd.results11, gb, gr, g2, g3, g5, e]
      refine ret_done (fb (decide_eq_false fun e' => e ?_).symm)
      subst e'
      rfl
  · simp only [↓rA, rB, Int.reduceEq, Int.reduceLE, Int.reduceLT, Int.reduceToNat, Nat.reduceAdd, Nat.reduceEqDiff, Nat.reduceLT, Nat.reduceLeDiff, Nat.reduceMul, Nat.reduceSub, reduceCtorEq, tbLY4, Tryd.results11, gb, gr, g2, g3, g5, h2, h3, hl', List.length_map, Int.ofNat_lt, Nat.lt_irrefl]
    rw [List.take_of_length_le (Nat.le_refl _), List.take_of_length_le (by omega)] at hq
    exact ret_done (fb (decide_eq_true hq).symm)
/-- The kinds of nodes, as the law writes them. -/
def kindsM (l : List Nd) (s : Str) : Str := l.foldl (fun s n => s ++ strOf [IntKind.u8.wrap (IntKind.i64.wrap (48 + n.kind))]) s
theorem kindsM_size : ∀ (l : List Nd) (s : Str), ByteArray.size (kindsM l s) = ByteArray.size s + l.length
  | [], s => rfl
  | n :: r, s => by
    have h := kindsM_size r (s ++ strOf [IntKind.u8.wrap (IntKind.i64.wrap (48 + n.kind))])
    rw [show kindsM (n :: r) s = kindsM r (s ++ strOf [IntKind.u8.wrap (IntKind.i64.wrap (48 + n.kind))]) from rfl, h, ByteArray.size_append, List.length_cons]
    have : ByteArray.size (strOf [IntKind.u8.wrap (IntKind.i64.wrap (48 + n.kind))]) = 1 := rfl
    omega
theorem kindsM_snoc (l : List Nd) (n : Nd) (s : Str) : kindsM (l ++ [n]) s = kindsM l s ++ strOf [IntKind.u8.wrap (IntKind.i64.wrap (48 + n.kind))] := by
  rw [kindsM, List.foldl_append]; rfl
set_option linter.defProp false in
def tbLY5 := (And.intro (And.intro (And.intro (And.intro (And.intro (And.intro (And.intro Ty.sz3 Ty.by3) (And.intro Ty.ag3 Ty.zr3)) (And.intro (And.intro Ty.un3 Ty.sz4) (And.intro Ty.by4 Ty.ag4))) (And.intro (And.intro (And.intro Ty.zr4 Ty.un4) (And.intro Ty.sz5 Ty.by5)) (And.intro (And.intro Ty.ag5 Ty.zr5) (And.intro Ty.un5 Ty.sz9)))) (And.intro (And.intro (And.intro (And.intro Ty.by9 Ty.ag9) (And.intro Ty.zr9 Ty.un9)) (And.intro (And.intro Ty.sz23 Ty.by23) (And.intro Ty.ag23 Ty.zr23))) (And.intro (And.intro (And.intro Ty.fl23_0 Ty.pl23_0) (And.intro Ty.fl23_1 Ty.pl23_1)) (And.intro (And.intro Ty.fl23_2 Ty.pl23_2) (And.intro Ty.sz24 (And.intro Ty.by24 Ty.ag24)))))) (And.intro (And.intro (And.intro (And.intro (And.intro Ty.zr24 Ty.un24) (And.intro Ty.sz26 Ty.by26)) (And.intro (And.intro Ty.ag26 Ty.zr26) (And.intro Ty.fl26_0 Ty.pl26_0))) (And.intro (And.intro (And.intro Ty.fl26_1 Ty.pl26_1) (And.intro Ty.sz27 Ty.by27)) (And.intro (And.intro Ty.ag27 Ty.zr27) (And.intro Ty.un27 Ty.sz29)))) (And.intro (And.intro (And.intro (And.intro Ty.by29 Ty.ag29) (And.intro Ty.zr29 Ty.fl29_0)) (And.intro (And.intro Ty.pl29_0 Ty.fl29_1) (And.intro Ty.pl29_1 Ty.fl29_2))) (And.intro (And.intro (And.intro Ty.pl29_2 Ty.fl29_3) (And.intro Ty.pl29_3 Ty.fl29_4)) (And.intro (And.intro Ty.pl29_4 Ty.fl29_5) (And.intro Ty.pl29_5 (And.intro Ty.fl29_6 Ty.pl29_6))))))) (And.intro (And.intro (And.intro (And.intro (And.intro (And.intro Ty.fl29_7 Ty.pl29_7) (And.intro Ty.fl29_8 Ty.pl29_8)) (And.intro (And.intro Ty.sz31 Ty.by31) (And.intro Ty.ag31 Ty.zr31))) (And.intro (And.intro (And.intro Ty.un31 Ty.sz33) (And.intro Ty.by33 Ty.ag33)) (And.intro (And.intro Ty.zr33 Ty.fl33_0) (And.intro Ty.pl33_0 Ty.sz34)))) (And.intro (And.intro (And.intro (And.intro Ty.by34 Ty.ag34) (And.intro Ty.zr34 Ty.un34)) (And.intro (And.intro Ty.sz35 Ty.by35) (And.intro Ty.ag35 Ty.sz41))) (And.intro (And.intro (And.intro Ty.by41 Ty.ag41) (And.intro Ty.zr41 Ty.un41)) (And.intro (And.intro Ty.sz43 Ty.by43) (And.intro Ty.ag43 (And.intro Ty.zr43 Ty.fl43_0)))))) (And.intro (And.intro (And.intro (And.intro (And.intro Ty.pl43_0 Ty.fl43_1) (And.intro Ty.pl43_1 Ty.fl43_2)) (And.intro (And.intro Ty.pl43_2 Ty.fl43_3) (And.intro Ty.pl43_3 Ty.fl43_4))) (And.intro (And.intro (And.intro Ty.pl43_4 Ty.fl43_5) (And.intro Ty.pl43_5 Ty.fl43_6)) (And.intro (And.intro Ty.pl43_6 Ty.fl43_7) (And.intro Ty.pl43_7 (And.intro Ty.fl43_8 Ty.pl43_8))))) (And.intro (And.intro (And.intro (And.intro Ty.sz88 Ty.by88) (And.intro Ty.ag88 Ty.zr88)) (And.intro (And.intro Ty.un88 Ty.sz105) (And.intro Ty.by105 Ty.ag105))) (And.intro (And.intro (And.intro Ty.zr105 Ty.fl105_0) (And.intro Ty.pl105_0 Ty.fl105_1)) (And.intro (And.intro Ty.pl105_1 Ty.eq23) (And.intro Ty.eq26 (And.intro Ty.eq105 Ty.cb7))))))))
theorem kinds_ok (x : E) (hf : Fit x) (hs : shapeC x = 0) (hb : depthE x ≤ big) (hl : (graphC x).length ≤ big) : OkP Tryd.prog 19 [vE x] (vstr (kindsM (graphC x) es0)) := by
  have hg := graph_ok x hf hb
  rw [hs] at hg
  unfold big at hl
  simp only [vE, cE_eq x] at hg ⊢
  refine Ok.of_ex Ty.mixed Tryd.func19 rfl (by simp [Tryd.ntmps19]) (by kernel_rfl) fun F w0 I0 => ?_
  simp only [↓rA, rB, Int.reduceEq, Int.reduceLE, Int.reduceLT, Int.reduceToNat, Nat.reduceAdd, Nat.reduceEqDiff, Nat.reduceLT, Nat.reduceLeDiff, Nat.reduceMul, Nat.reduceSub, reduceCtorEq, tbLY5, Tryd.results19]
  refine fun b1 h1 => ?_; replace h1 := newb h1; try simp only [Nb] at h1
  simp only [↓rA, rB, Int.reduceEq, Int.reduceLE, Int.reduceLT, Int.reduceToNat, Nat.reduceAdd, Nat.reduceEqDiff, Nat.reduceLT, Nat.reduceLeDiff, Nat.reduceMul, Nat.reduceSub, reduceCtorEq, tbLY5, Tryd.results19, h1]
  refine OkF_of _ hg ?_
  simp only [↓rA, rB, Int.reduceEq, Int.reduceLE, Int.reduceLT, Int.reduceToNat, Nat.reduceAdd, Nat.reduceEqDiff, Nat.reduceLT, Nat.reduceLeDiff, Nat.reduceMul, Nat.reduceSub, reduceCtorEq, tbLY5, Tryd.results19, h1]
  refine fun b3 h3 => ?_; replace h3 := newb h3; try simp only [Nb] at h3
  simp only [↓rA, rB, Int.reduceEq, Int.reduceLE, Int.reduceLT, Int.reduceToNat, Nat.reduceAdd, Nat.reduceEqDiff, Nat.reduceLT, Nat.reduceLeDiff, Nat.reduceMul, Nat.reduceSub, reduceCtorEq, tbLY5, Tryd.results19, h1, h3]
  refine EX_forP Ty.mixed (by kernel_rfl) (graphC x).length (fun i S => S.boxes = [(b3, .c [vNds (graphC x)]), (b1, .c (cH x.hd (vEs x.args)))] ∧ S.rows = [] ∧ S.σ 3 = ptr b3 ∧ S.σ 4 = vint 0 ∧ S.σ 5 = vstr (kindsM ((graphC x).take i) es0) ∧ S.σ 6 = vint i) ⟨_, _, _, _, List.Sublist.refl _, List.Sublist.refl _, List.Perm.refl _, List.Perm.refl _, ?_⟩ (fun i S hi ⟨gb, gr, g3, g4, g5, g6⟩ => ?_) (fun S ⟨gb, gr, g3, g4, g5, g6⟩ => ?_)
  · simp only [↓rA, rB, Int.reduceEq, Int.reduceLE, Int.reduceLT, Int.reduceToNat, Nat.reduceAdd, Nat.reduceEqDiff, Nat.reduceLT, Nat.reduceLeDiff, Nat.reduceMul, Nat.reduceSub, reduceCtorEq, tbLY5, Tryd.results19, h1, h3]
    rfl
  · have hwi := wrap_succ (i := i) (N := (graphC x).length) hi (by omega)
    simp only [↓rA, rB, Int.reduceEq, Int.reduceLE, Int.reduceLT, Int.reduceToNat, Nat.reduceAdd, Nat.reduceEqDiff, Nat.reduceLT, Nat.reduceLeDiff, Nat.reduceMul, Nat.reduceSub, reduceCtorEq, tbLY5, Tryd.results19, gb, gr, g3, g4, g5, g6, h1, h3, Int.ofNat_lt, hi, List.length_map, getD_map _ _ _ hi, cNd_eq]
    refine fun y => ⟨fun e he => by obtain rfl := List.mem_singleton.1 he; rfl, [_], rfl, ?_⟩
    simp only [↓rA, rB, Int.reduceEq, Int.reduceLE, Int.reduceLT, Int.reduceToNat, Nat.reduceAdd, Nat.reduceEqDiff, Nat.reduceLT, Nat.reduceLeDiff, Nat.reduceMul, Nat.reduceSub, reduceCtorEq, tbLY5, Tryd.results19, gb, gr, g3, g4, g5, g6, h1, h3, hwi]
    rw [if_pos]
    · refine ⟨_, _, _, _, List.Sublist.refl _, List.nil_sublist _, List.Perm.refl _, List.Perm.refl _, ?_⟩
      simp only [↓rA, rB, Int.reduceEq, Int.reduceLE, Int.reduceLT, Int.reduceToNat, Nat.reduceAdd, Nat.reduceEqDiff, Nat.reduceLT, Nat.reduceLeDiff, Nat.reduceMul, Nat.reduceSub, reduceCtorEq, tbLY5, Tryd.results19, gb, gr, g3, g4, g5, g6, h1, h3, hwi]
      rw [List.take_succ_eq_append_getElem hi, kindsM_snoc]
    · rw [kindsM_size, List.length_take, show ByteArray.size es0 = 0 from rfl, show (strOf [IntKind.u8.wrap (IntKind.i64.wrap (48 + (graphC x)[i].kind))]).size = 1 from rfl]
      omega
  · rw [List.take_of_length_le (Nat.le_refl _)] at g5
    simp only [↓rA, rB, Int.reduceEq, Int.reduceLE, Int.reduceLT, Int.reduceToNat, Nat.reduceAdd, Nat.reduceEqDiff, Nat.reduceLT, Nat.reduceLeDiff, Nat.reduceMul, Nat.reduceSub, reduceCtorEq, tbLY5, Tryd.results19, gb, gr, g3, g4, g5, g6, h1, h3, Int.ofNat_lt, Nat.lt_irrefl, List.length_map]
    exact ret_done rfl
end Go.Proofs.YtphkmlogjgeipaaDoor

/- Lowering: the example's values. -/
set_option maxRecDepth 100000
namespace Go.Lo
open Go.VL Go.Ar
abbrev oneE : E := .mk { hd0 1 with val := ⟨2, 1, es0⟩ } []
abbrev sCnt : Str := ⟨#[99, 111, 117, 110, 116]⟩
abbrev sSum : Str := ⟨#[115, 117, 109]⟩
abbrev sMax : Str := ⟨#[109, 97, 120]⟩
abbrev sAmount : Str := ⟨#[97, 109, 111, 117, 110, 116]⟩
abbrev sPlus : Str := ⟨#[43]⟩
abbrev sDiv : Str := ⟨#[47]⟩
abbrev sF : Str := ⟨#[102]⟩
abbrev sUser : Str := ⟨#[117, 115, 101, 114]⟩
abbrev countE : E := overE sCnt tt
abbrev amountE : E := .mk { hd0 2 with name := sAmount } []
abbrev sumE : E := overE sSum amountE
abbrev lastE : E := .mk ⟨5, sCnt, es0, sOrders, val0, [], 0, 4, 30⟩ [tt, tt]
abbrev featE : E := .mk { hd0 3 with name := sF } []
abbrev exF : Ftr := ⟨sF, sUser, ⟨2, [], es0⟩, countE, 1⟩
abbrev exC : Cat := ⟨[⟨sOrders, sUser, [⟨sAmount, ⟨2, [], es0⟩⟩], 0⟩], [exF], [], []⟩
end Go.Lo
namespace Go.Proofs.YtphkmlogjgeipaaDoor
open Go.VL Go.Ar Go.Lo Go.Proofs.YtphkmlogjgeipaaDoor
theorem sh1 : shapeC (binE sPlus countE countE) = 0 := by decide +kernel
theorem sh2 : shapeC (binE sPlus oneE oneE) = 0 := by decide +kernel
theorem sh3 : shapeC (binE sDiv sumE countE) = 0 := by decide +kernel
theorem putM_new {l : List Nd} {n : Nd} (h : n ∉ l) : putM l n = (l ++ [n], l.length) := by
  rw [putM, if_neg h, idxM_not fun j hj e => h (by rw [e]; exact List.getElem_mem hj)]
theorem putM_old {l : List Nd} {n : Nd} (h : n ∈ l) : putM l n = (l, idxM l n) := by rw [putM, if_pos h]
theorem gr2 : graphC (binE sPlus oneE oneE) = [{ nd0 5 with val := ⟨2, 1, es0⟩, expr := oneE }, { nd0 8 with op := sPlus, inn := [0, 0] }] := by
  rw [graphC, if_pos sh2]
  simp [lowE_op, lowEs, putM, idxM, ownM]
theorem gr1 : graphC (binE sPlus countE countE) = [{ nd0 1 with table := sOrders }, { nd0 2 with expr := tt, inn := [0] }, { nd0 3 with expr := tt, inn := [1] }, { nd0 4 with op := sCnt, wk := 1, inn := [2] }, { nd0 8 with op := sPlus, inn := [3, 3] }] := by
  rw [graphC, if_pos sh1]
  simp [lowE_op, lowE_agg, lowEs, overM, putM, idxM, ownM]
theorem gr3 : graphC (binE sDiv sumE countE) = [{ nd0 1 with table := sOrders }, { nd0 2 with expr := tt, inn := [0] }, { nd0 3 with expr := amountE, inn := [1] }, { nd0 4 with op := sSum, wk := 1, inn := [2] }, { nd0 3 with expr := tt, inn := [1] }, { nd0 4 with op := sCnt, wk := 1, inn := [4] }, { nd0 8 with op := sDiv, inn := [3, 5] }] := by
  rw [graphC, if_pos sh3]
  simp [lowE_op, lowE_agg, lowEs, overM, putM, idxM, ownM]
end Go.Proofs.YtphkmlogjgeipaaDoor

/- Contracts of lowering, part r: the example. -/
set_option linter.unusedSimpArgs false
set_option maxRecDepth 100000
namespace Go.Proofs.YtphkmlogjgeipaaDoor
open Go.VL Go.Ar Go.Lo Go.Proofs.YtphkmlogjgeipaaDoor

theorem LeL_ats {w : World} {I : Cells} {b : Nat} : ∀ {l l' : List V} {o : Nat}, LeL l l' → V.ats w I l b o → V.ats w I l' b o
  | _, _, _, .nil, _ => by simp only [V.ats]
  | _, _, o, .cons h r, ha => by
    simp only [V.ats] at ha ⊢
    obtain ⟨⟨x, h1, h2, h3, h4⟩, h5⟩ := ha
    exact ⟨⟨x, h1, h2, h3, h w I x h4⟩, LeL_ats r h5⟩
theorem LeL_len : ∀ {l l' : List V}, LeL l l' → l.length = l'.length
  | _, _, .nil => rfl
  | _, _, .cons _ r => by simp [LeL_len r]
inductive LeLL : List (List V) → List (List V) → Prop
  | nil : LeLL [] []
  | cons {e e' : List V} {l l' : List (List V)} (h : LeL e e') (r : LeLL l l') : LeLL (e :: l) (e' :: l')
theorem LeLL.len : ∀ {l l' : List (List V)}, LeLL l l' → l.length = l'.length
  | _, _, .nil => rfl
  | _, _, .cons _ r => by simp [r.len]
theorem LeLL.lies {w : World} {I : Cells} {b k : Nat} : ∀ {l l' : List (List V)} {o : Nat}, LeLL l l' → V.lies w I k l b o → V.lies w I k l' b o
  | _, _, _, .nil, _ => by simp only [V.lies]
  | _, _, o, .cons h r, ha => by
    simp only [V.lies] at ha ⊢
    exact ⟨LeL_ats h ha.1, LeL_len h ▸ ha.2.1, r.lies ha.2.2⟩
theorem Le.lists {own : Option Value} {k : Nat} {es es' : List (List V)} (h : LeLL es es') : Le (.list own k es) (.list none k es') := by
  intro w I x hx
  simp only [V.rep] at hx ⊢
  obtain ⟨_, a, c, h1, h2, h3⟩ := hx
  refine ⟨fun y hy => (by cases hy), a, c, h.len ▸ h1, h.len ▸ h2, ?_⟩
  rcases h3 with e | ⟨b, o, e, hl⟩
  · subst e
    cases h
    exact .inl rfl
  · exact .inr ⟨b, o, e, h.lies hl⟩

theorem kd1 : kindsM (graphC (binE sPlus countE countE)) es0 = ⟨#[49, 50, 51, 52, 56]⟩ := by rw [gr1]; decide +kernel
theorem kd2 : kindsM (graphC (binE sPlus oneE oneE)) es0 = ⟨#[53, 56]⟩ := by rw [gr2]; decide +kernel
theorem kd3 : kindsM (graphC (binE sDiv sumE countE)) es0 = ⟨#[49, 50, 51, 52, 51, 52, 56]⟩ := by rw [gr3]; decide +kernel
abbrev maxE : E := overE sMax amountE
abbrev mo : E := binE sPlus maxE oneE
theorem fitA (h : Hd) (hu : h.unit.length ≤ big) : Fit (.mk h []) := .mk _ _ hu (by decide) fun x hx => by cases hx
theorem fitB {a b : E} (h : Hd) (hu : h.unit.length ≤ big) (ha : Fit a) (hb : Fit b) : Fit (.mk h [a, b]) := .mk _ _ hu (show 2 ≤ big by decide) fun x hx => by
  rcases List.mem_cons.1 hx with rfl | hx
  · exact ha
  · obtain rfl := List.mem_singleton.1 hx
    exact hb
theorem fitTT : Fit tt := fitA _ (by decide)
theorem fitOne : Fit oneE := fitA _ (by decide)
theorem fitFe : Fit featE := fitA _ (by decide)
theorem fitAm : Fit amountE := fitA _ (by decide)
theorem fitCnt : Fit countE := fitB _ (by decide) fitTT fitTT
theorem fitSum : Fit sumE := fitB _ (by decide) fitAm fitTT
theorem fitMax : Fit maxE := fitB _ (by decide) fitAm fitTT
theorem fitLast : Fit lastE := fitB _ (by decide) fitTT fitTT
theorem fitMo : Fit mo := fitB _ (by decide) fitMax fitOne
theorem cl1 : OkP Tryd.prog 18 [vCat exC, vE oneE] (vint 0) := class_none exC oneE fitOne [] (uses_none exC oneE fitOne [] (by decide +kernel) (by decide))
theorem cl2 : OkP Tryd.prog 18 [vCat exC, vE featE] (vint 1) := class_one exC featE fitFe (by decide) sF exF fitCnt rfl [sOrders] (uses_one exC featE fitFe (by decide) sF exF fitCnt [] [sOrders] (by decide +kernel) rfl (by decide +kernel) (by decide))
theorem cl3 : OkP Tryd.prog 18 [vCat exC, vE mo] (vint 2) := class_none exC mo fitMo [sOrders] (uses_none exC mo fitMo [sOrders] (by decide +kernel) (by decide))
theorem cl4 : OkP Tryd.prog 18 [vCat exC, vE lastE] (vint 3) := class_none exC lastE fitLast [sOrders] (uses_none exC lastE fitLast [sOrders] (by decide +kernel) (by decide))
theorem vE_over (op : Str) (x : E) : vE (overE op x) = .agg (cH ⟨5, op, es0, sOrders, val0, [], 0, 1, 0⟩ (.list none 12 [cE x, cE tt])) := by rw [vE, cE_mk]; rfl
theorem vE_last : vE lastE = .agg (cH ⟨5, sCnt, es0, sOrders, val0, [], 0, 4, 30⟩ (.list none 12 [cE tt, cE tt])) := by rw [vE, cE_mk]; rfl
theorem vE_one : vE oneE = .agg (cH { hd0 1 with val := ⟨2, 1, es0⟩ } (.list none 12 [])) := by rw [vE, cE_mk]; rfl
theorem vE_am : vE amountE = .agg (cH { hd0 2 with name := sAmount } (.list none 12 [])) := by rw [vE, cE_mk]; rfl
theorem vE_tt : vE tt = .agg (cH hTT (.list none 12 [])) := by rw [vE, cE_mk]; rfl
abbrev gr1L : List Nd := [{ nd0 1 with table := sOrders }, { nd0 2 with expr := tt, inn := [0] }, { nd0 3 with expr := tt, inn := [1] }, { nd0 4 with op := sCnt, wk := 1, inn := [2] }, { nd0 8 with op := sPlus, inn := [3, 3] }]
theorem EX_gen {C : Ctx} {k : List It} {S : St} {Q : Exit → St → Prop} (T : St → Prop) (h : T S) (hk : ∀ S, T S → EX C k S Q) : EX C k S Q := hk S h
abbrev tabV (y y1 : Value) : V := .list (some y1) 4 [[vstr sOrders, vstr sUser, .list (some y) 4 [[vstr sAmount, vint 2, nilS, vstr es0]], vint 0]]
abbrev cFx : List V := [vstr sF, vstr sUser, vint 2, nilS, vstr es0, vint 5, vstr sCnt, vstr es0, vstr sOrders, vint 0, vint 0, vstr es0, vFacs [], vint 0, vint 1, vint 0, .list none 12 [cE tt, cE tt], vint 1]
abbrev ftrV (y2 : Value) : V := .list (some y2) 18 [cFx]
theorem leCat (y y1 y2 : Value) : Le (.agg [tabV y y1, ftrV y2, nilS, nilS]) (vCat exC) := by
  refine leAgg (.cons (Le.lists (.cons (.cons (Le.refl _) (.cons (Le.refl _) (.cons (Le.lists (.cons (.cons (Le.refl _) (.cons (Le.refl _) (.cons (Le.nil 2) (.cons (Le.refl _) .nil)))) .nil)) (.cons (Le.refl _) .nil)))) .nil)) (.cons (Le.lists (.cons ?_ .nil)) (.cons (Le.nil 18) (.cons (Le.nil 18) .nil))))
  rw [cFtr_eq]
  exact .cons (Le.refl _) (.cons (Le.refl _) (.cons (Le.refl _) (.cons (Le.nil 2) (LeL.refl _))))
set_option linter.defProp false in
def tbL10 := (And.intro (And.intro (And.intro (And.intro (And.intro (And.intro (And.intro Ty.sz3 (And.intro Ty.by3 Ty.ag3)) (And.intro Ty.zr3 (And.intro Ty.un3 Ty.sz4))) (And.intro (And.intro Ty.by4 (And.intro Ty.ag4 Ty.zr4)) (And.intro Ty.un4 (And.intro Ty.sz9 Ty.by9)))) (And.intro (And.intro (And.intro Ty.ag9 (And.intro Ty.zr9 Ty.un9)) (And.intro Ty.sz23 (And.intro Ty.by23 Ty.ag23))) (And.intro (And.intro Ty.zr23 (And.intro Ty.fl23_0 Ty.pl23_0)) (And.intro Ty.fl23_1 (And.intro Ty.pl23_1 Ty.fl23_2))))) (And.intro (And.intro (And.intro (And.intro Ty.pl23_2 (And.intro Ty.sz24 Ty.by24)) (And.intro Ty.ag24 (And.intro Ty.zr24 Ty.un24))) (And.intro (And.intro Ty.sz26 (And.intro Ty.by26 Ty.ag26)) (And.intro Ty.zr26 (And.intro Ty.fl26_0 Ty.pl26_0)))) (And.intro (And.intro (And.intro Ty.fl26_1 (And.intro Ty.pl26_1 Ty.sz27)) (And.intro Ty.by27 (And.intro Ty.ag27 Ty.zr27))) (And.intro (And.intro Ty.un27 (And.intro Ty.sz29 Ty.by29)) (And.intro (And.intro Ty.ag29 Ty.zr29) (And.intro Ty.fl29_0 Ty.pl29_0)))))) (And.intro (And.intro (And.intro (And.intro (And.intro Ty.fl29_1 (And.intro Ty.pl29_1 Ty.fl29_2)) (And.intro Ty.pl29_2 (And.intro Ty.fl29_3 Ty.pl29_3))) (And.intro (And.intro Ty.fl29_4 (And.intro Ty.pl29_4 Ty.fl29_5)) (And.intro Ty.pl29_5 (And.intro Ty.fl29_6 Ty.pl29_6)))) (And.intro (And.intro (And.intro Ty.fl29_7 (And.intro Ty.pl29_7 Ty.fl29_8)) (And.intro Ty.pl29_8 (And.intro Ty.sz31 Ty.by31))) (And.intro (And.intro Ty.ag31 (And.intro Ty.zr31 Ty.un31)) (And.intro (And.intro Ty.sz33 Ty.by33) (And.intro Ty.ag33 Ty.zr33))))) (And.intro (And.intro (And.intro (And.intro Ty.fl33_0 (And.intro Ty.pl33_0 Ty.sz34)) (And.intro Ty.by34 (And.intro Ty.ag34 Ty.zr34))) (And.intro (And.intro Ty.un34 (And.intro Ty.sz35 Ty.by35)) (And.intro Ty.ag35 (And.intro Ty.sz41 Ty.by41)))) (And.intro (And.intro (And.intro Ty.ag41 (And.intro Ty.zr41 Ty.un41)) (And.intro Ty.sz43 (And.intro Ty.by43 Ty.ag43))) (And.intro (And.intro Ty.zr43 (And.intro Ty.fl43_0 Ty.pl43_0)) (And.intro (And.intro Ty.fl43_1 Ty.pl43_1) (And.intro Ty.fl43_2 Ty.pl43_2))))))) (And.intro (And.intro (And.intro (And.intro (And.intro (And.intro Ty.fl43_3 (And.intro Ty.pl43_3 Ty.fl43_4)) (And.intro Ty.pl43_4 (And.intro Ty.fl43_5 Ty.pl43_5))) (And.intro (And.intro Ty.fl43_6 (And.intro Ty.pl43_6 Ty.fl43_7)) (And.intro Ty.pl43_7 (And.intro Ty.fl43_8 Ty.pl43_8)))) (And.intro (And.intro (And.intro Ty.sz56 (And.intro Ty.by56 Ty.ag56)) (And.intro Ty.zr56 (And.intro Ty.fl56_0 Ty.pl56_0))) (And.intro (And.intro Ty.fl56_1 (And.intro Ty.pl56_1 Ty.fl56_2)) (And.intro (And.intro Ty.pl56_2 Ty.sz58) (And.intro Ty.by58 Ty.ag58))))) (And.intro (And.intro (And.intro (And.intro Ty.zr58 (And.intro Ty.fl58_0 Ty.pl58_0)) (And.intro Ty.fl58_1 (And.intro Ty.pl58_1 Ty.fl58_2))) (And.intro (And.intro Ty.pl58_2 (And.intro Ty.fl58_3 Ty.pl58_3)) (And.intro Ty.fl58_4 (And.intro Ty.pl58_4 Ty.sz60)))) (And.intro (And.intro (And.intro Ty.by60 (And.intro Ty.ag60 Ty.zr60)) (And.intro Ty.fl60_0 (And.intro Ty.pl60_0 Ty.fl60_1))) (And.intro (And.intro Ty.pl60_1 (And.intro Ty.sz61 Ty.by61)) (And.intro (And.intro Ty.ag61 Ty.zr61) (And.intro Ty.un61 Ty.sz63)))))) (And.intro (And.intro (And.intro (And.intro (And.intro Ty.by63 (And.intro Ty.ag63 Ty.zr63)) (And.intro Ty.fl63_0 (And.intro Ty.pl63_0 Ty.fl63_1))) (And.intro (And.intro Ty.pl63_1 (And.intro Ty.fl63_2 Ty.pl63_2)) (And.intro Ty.fl63_3 (And.intro Ty.pl63_3 Ty.sz64)))) (And.intro (And.intro (And.intro Ty.by64 (And.intro Ty.ag64 Ty.zr64)) (And.intro Ty.un64 (And.intro Ty.sz65 Ty.by65))) (And.intro (And.intro Ty.ag65 (And.intro Ty.zr65 Ty.un65)) (And.intro (And.intro Ty.sz67 Ty.by67) (And.intro Ty.ag67 Ty.zr67))))) (And.intro (And.intro (And.intro (And.intro Ty.fl67_0 (And.intro Ty.pl67_0 Ty.fl67_1)) (And.intro Ty.pl67_1 (And.intro Ty.fl67_2 Ty.pl67_2))) (And.intro (And.intro Ty.fl67_3 (And.intro Ty.pl67_3 Ty.sz105)) (And.intro Ty.by105 (And.intro Ty.ag105 Ty.zr105)))) (And.intro (And.intro (And.intro Ty.fl105_0 (And.intro Ty.pl105_0 Ty.fl105_1)) (And.intro Ty.pl105_1 (And.intro Ty.eq23 Ty.eq26))) (And.intro (And.intro Ty.eq105 (And.intro Ty.cb7 Ty.cb10)) (And.intro (And.intro Ty.cb16 Ty.cb17) (And.intro Ty.cb18 Ty.cb19))))))))
theorem example_ok : OkP Tryd.prog 6 [] (vbool true) := by
  have hT := true_ok
  have h1 := over_ok sCnt tt
  have h2 := over_ok sSum amountE
  have h3 := binary_ok sPlus countE countE
  have h4 := graph_ok (binE sPlus countE countE) (fitB _ (by decide) fitCnt fitCnt) (by decide +kernel)
  rw [sh1, gr1] at h4
  rw [vE_over] at h1 h2 h3
  have h5 := over_ok sMax amountE
  have h6 := binary_ok sPlus maxE oneE
  have h7 := binary_ok sPlus oneE oneE
  have h9 := binary_ok sDiv sumE countE
  have k1 := kinds_ok (binE sPlus countE countE) (fitB _ (by decide) fitCnt fitCnt) sh1 (by decide +kernel) (by rw [gr1]; decide)
  have k2 := kinds_ok (binE sPlus oneE oneE) (fitB _ (by decide) fitOne fitOne) sh2 (by decide +kernel) (by rw [gr2]; decide)
  have k3 := kinds_ok (binE sDiv sumE countE) (fitB _ (by decide) fitSum fitCnt) sh3 (by decide +kernel) (by rw [gr3]; decide)
  rw [kd1] at k1
  rw [kd2] at k2
  rw [kd3] at k3
  rw [vE_over, vE_over] at h9
  have c4 := cl4
  rw [vE_last] at c4
  have leI : ∀ {u a : V}, Le u (.list none 2 []) → Le a (.list none 12 []) → Le (.agg [vint 1, vstr es0, vstr es0, vstr es0, vint 2, vint 1, vstr es0, u, vint 0, vint 0, vint 0, a]) (vE oneE) := fun hu ha => leE (h := { hd0 1 with val := ⟨2, 1, es0⟩ }) (l := []) hu ha
  generalize hB : vE (binE sPlus countE countE) = B1 at h3 h4 k1
  refine Ok.of_ex Ty.mixed Tryd.func6 rfl (by simp [Tryd.ntmps6]) (by kernel_rfl) fun F w0 I0 => ?_
  simp only [↓rA, rB, Int.reduceEq, Int.reduceLE, Int.reduceLT, Int.reduceToNat, Nat.reduceAdd, Nat.reduceEqDiff, Nat.reduceLT, Nat.reduceLeDiff, Nat.reduceMul, Nat.reduceSub, reduceCtorEq, tbL10, Tryd.results6]
  refine fun b1 n1 => ?_; replace n1 := newb n1; try simp only [Nb] at n1
  simp only [↓rA, rB, Int.reduceEq, Int.reduceLE, Int.reduceLT, Int.reduceToNat, Nat.reduceAdd, Nat.reduceEqDiff, Nat.reduceLT, Nat.reduceLeDiff, Nat.reduceMul, Nat.reduceSub, reduceCtorEq, tbL10, Tryd.results6, n1]
  refine OkF_of _ hT ?_
  simp only [↓rA, rB, Int.reduceEq, Int.reduceLE, Int.reduceLT, Int.reduceToNat, Nat.reduceAdd, Nat.reduceEqDiff, Nat.reduceLT, Nat.reduceLeDiff, Nat.reduceMul, Nat.reduceSub, reduceCtorEq, tbL10, Tryd.results6, n1]
  refine OkF_of _ h1 ?_
  simp only [↓rA, rB, Int.reduceEq, Int.reduceLE, Int.reduceLT, Int.reduceToNat, Nat.reduceAdd, Nat.reduceEqDiff, Nat.reduceLT, Nat.reduceLeDiff, Nat.reduceMul, Nat.reduceSub, reduceCtorEq, tbL10, Tryd.results6, n1]
  refine fun b2 n2 => ?_; replace n2 := newb n2; try simp only [Nb] at n2
  simp only [↓rA, rB, Int.reduceEq, Int.reduceLE, Int.reduceLT, Int.reduceToNat, Nat.reduceAdd, Nat.reduceEqDiff, Nat.reduceLT, Nat.reduceLeDiff, Nat.reduceMul, Nat.reduceSub, reduceCtorEq, tbL10, Tryd.results6, n1, n2]
  refine OkF_le (.cons (Le.refl _) (.cons (leE (h := { hd0 2 with name := sAmount }) (l := []) (Le.nil 2) (Le.nil 12)) .nil)) _ h2 ?_
  simp only [↓rA, rB, Int.reduceEq, Int.reduceLE, Int.reduceLT, Int.reduceToNat, Nat.reduceAdd, Nat.reduceEqDiff, Nat.reduceLT, Nat.reduceLeDiff, Nat.reduceMul, Nat.reduceSub, reduceCtorEq, tbL10, Tryd.results6, n1, n2]
  refine fun b3 n3 => ?_; replace n3 := newb n3; try simp only [Nb] at n3
  simp only [↓rA, rB, Int.reduceEq, Int.reduceLE, Int.reduceLT, Int.reduceToNat, Nat.reduceAdd, Nat.reduceEqDiff, Nat.reduceLT, Nat.reduceLeDiff, Nat.reduceMul, Nat.reduceSub, reduceCtorEq, tbL10, Tryd.results6, n1, n2, n3]
  refine OkF_of _ h3 ?_
  simp only [↓rA, rB, Int.reduceEq, Int.reduceLE, Int.reduceLT, Int.reduceToNat, Nat.reduceAdd, Nat.reduceEqDiff, Nat.reduceLT, Nat.reduceLeDiff, Nat.reduceMul, Nat.reduceSub, reduceCtorEq, tbL10, Tryd.results6, n1, n2, n3]
  refine OkF_of _ h4 ?_
  simp only [↓rA, rB, Int.reduceEq, Int.reduceLE, Int.reduceLT, Int.reduceToNat, Nat.reduceAdd, Nat.reduceEqDiff, Nat.reduceLT, Nat.reduceLeDiff, Nat.reduceMul, Nat.reduceSub, reduceCtorEq, tbL10, Tryd.results6, n1, n2, n3]
  refine fun b4 n4 => ?_; replace n4 := newb n4; try simp only [Nb] at n4
  simp only [↓rA, rB, Int.reduceEq, Int.reduceLE, Int.reduceLT, Int.reduceToNat, Nat.reduceAdd, Nat.reduceEqDiff, Nat.reduceLT, Nat.reduceLeDiff, Nat.reduceMul, Nat.reduceSub, reduceCtorEq, tbL10, Tryd.results6, Int.cast_ofNat_Int, cNd_eq, n1, n2, n3, n4]
  refine fun b6 n6 => ?_; replace n6 := newb n6; try simp only [Nb] at n6
  simp only [↓rA, rB, Int.reduceEq, Int.reduceLE, Int.reduceLT, Int.reduceToNat, Nat.reduceAdd, Nat.reduceEqDiff, Nat.reduceLT, Nat.reduceLeDiff, Nat.reduceMul, Nat.reduceSub, reduceCtorEq, tbL10, Tryd.results6, Int.cast_ofNat_Int, cNd_eq, n1, n2, n3, n4, n6]
  refine fun b7 n7 => ?_; replace n7 := newb n7; try simp only [Nb] at n7
  simp only [↓rA, rB, Int.reduceEq, Int.reduceLE, Int.reduceLT, Int.reduceToNat, Nat.reduceAdd, Nat.reduceEqDiff, Nat.reduceLT, Nat.reduceLeDiff, Nat.reduceMul, Nat.reduceSub, reduceCtorEq, tbL10, Tryd.results6, Int.cast_ofNat_Int, cNd_eq, n1, n2, n3, n4, n6, n7]
  intro y y1 y2
  refine fun b8 n8 => ?_; replace n8 := newb n8; try simp only [Nb] at n8
  simp only [↓rA, rB, Int.reduceEq, Int.reduceLE, Int.reduceLT, Int.reduceToNat, Nat.reduceAdd, Nat.reduceEqDiff, Nat.reduceLT, Nat.reduceLeDiff, Nat.reduceMul, Nat.reduceSub, reduceCtorEq, tbL10, Tryd.results6, n1, n2, n3, n4, n6, n7, n8]
  have leOne : ∀ {a : V} {x : E}, Le a (vE x) → LeL [.agg [tabV y y1, ftrV y2, nilS, nilS], a] [vCat exC, vE x] := fun h => .cons (leCat y y1 y2) (.cons h .nil)
  refine CallV_le (leOne (leE (h := { hd0 1 with val := ⟨2, 1, es0⟩ }) (l := []) (Le.nil 2) (Le.nil 12))) _ cl1 ?_
  simp only [↓rA, rB, Int.reduceEq, Int.reduceLE, Int.reduceLT, Int.reduceToNat, Nat.reduceAdd, Nat.reduceEqDiff, Nat.reduceLT, Nat.reduceLeDiff, Nat.reduceMul, Nat.reduceSub, reduceCtorEq, tbL10, Tryd.results6, n1, n2, n3, n4, n6, n7, n8]
  refine CallV_le (leOne (leE (h := { hd0 3 with name := sF }) (l := []) (Le.nil 2) (Le.nil 12))) _ cl2 ?_
  simp only [↓rA, rB, Int.reduceEq, Int.reduceLE, Int.reduceLT, Int.reduceToNat, Nat.reduceAdd, Nat.reduceEqDiff, Nat.reduceLT, Nat.reduceLeDiff, Nat.reduceMul, Nat.reduceSub, reduceCtorEq, tbL10, Tryd.results6, n1, n2, n3, n4, n6, n7, n8]
  refine ⟨by rw [cE_len]; exact Nat.le_refl _, ?_⟩
  rw [List.take_of_length_le (by rw [cE_len]; exact Nat.le_refl _)]
  refine CallV_of _ h5.v ?_
  simp only [↓rA, rB, Int.reduceEq, Int.reduceLE, Int.reduceLT, Int.reduceToNat, Nat.reduceAdd, Nat.reduceEqDiff, Nat.reduceLT, Nat.reduceLeDiff, Nat.reduceMul, Nat.reduceSub, reduceCtorEq, tbL10, Tryd.results6, n1, n2, n3, n4, n6, n7, n8]
  refine CallV_le (.cons (Le.refl _) (.cons (Le.refl _) (.cons (leI (Le.nil 2) (Le.nil 12)) .nil))) _ h6 ?_
  simp only [↓rA, rB, Int.reduceEq, Int.reduceLE, Int.reduceLT, Int.reduceToNat, Nat.reduceAdd, Nat.reduceEqDiff, Nat.reduceLT, Nat.reduceLeDiff, Nat.reduceMul, Nat.reduceSub, reduceCtorEq, tbL10, Tryd.results6, n1, n2, n3, n4, n6, n7, n8]
  refine CallV_le (leOne (Le.refl _)) _ cl3 ?_
  simp only [↓rA, rB, Int.reduceEq, Int.reduceLE, Int.reduceLT, Int.reduceToNat, Nat.reduceAdd, Nat.reduceEqDiff, Nat.reduceLT, Nat.reduceLeDiff, Nat.reduceMul, Nat.reduceSub, reduceCtorEq, tbL10, Tryd.results6, n1, n2, n3, n4, n6, n7, n8]
  refine CallV_le (.cons (leCat y y1 y2) (.cons (Le.refl _) .nil)) _ c4 ?_
  simp only [↓rA, rB, Int.reduceEq, Int.reduceLE, Int.reduceLT, Int.reduceToNat, Nat.reduceAdd, Nat.reduceEqDiff, Nat.reduceLT, Nat.reduceLeDiff, Nat.reduceMul, Nat.reduceSub, reduceCtorEq, tbL10, Tryd.results6, n1, n2, n3, n4, n6, n7, n8]
  refine OkF_le (.cons (Le.refl _) (.cons (leI (Le.nil 2) (Le.nil 12)) (.cons (leI (Le.nil 2) (Le.nil 12)) .nil))) _ h7 ?_
  simp only [↓rA, rB, Int.reduceEq, Int.reduceLE, Int.reduceLT, Int.reduceToNat, Nat.reduceAdd, Nat.reduceEqDiff, Nat.reduceLT, Nat.reduceLeDiff, Nat.reduceMul, Nat.reduceSub, reduceCtorEq, tbL10, Tryd.results6, n1, n2, n3, n4, n6, n7, n8]
  refine OkF_of _ k2 ?_
  simp only [↓rA, rB, Int.reduceEq, Int.reduceLE, Int.reduceLT, Int.reduceToNat, Nat.reduceAdd, Nat.reduceEqDiff, Nat.reduceLT, Nat.reduceLeDiff, Nat.reduceMul, Nat.reduceSub, reduceCtorEq, tbL10, Tryd.results6, n1, n2, n3, n4, n6, n7, n8]
  refine OkF_of _ h3 ?_
  simp only [↓rA, rB, Int.reduceEq, Int.reduceLE, Int.reduceLT, Int.reduceToNat, Nat.reduceAdd, Nat.reduceEqDiff, Nat.reduceLT, Nat.reduceLeDiff, Nat.reduceMul, Nat.reduceSub, reduceCtorEq, tbL10, Tryd.results6, n1, n2, n3, n4, n6, n7, n8]
  refine OkF_of _ k1 ?_
  simp only [↓rA, rB, Int.reduceEq, Int.reduceLE, Int.reduceLT, Int.reduceToNat, Nat.reduceAdd, Nat.reduceEqDiff, Nat.reduceLT, Nat.reduceLeDiff, Nat.reduceMul, Nat.reduceSub, reduceCtorEq, tbL10, Tryd.results6, n1, n2, n3, n4, n6, n7, n8, cNd_eq, Int.cast_ofNat_Int]
  refine OkF_of _ h9 ?_
  simp only [↓rA, rB, Int.reduceEq, Int.reduceLE, Int.reduceLT, Int.reduceToNat, Nat.reduceAdd, Nat.reduceEqDiff, Nat.reduceLT, Nat.reduceLeDiff, Nat.reduceMul, Nat.reduceSub, reduceCtorEq, tbL10, Tryd.results6, n1, n2, n3, n4, n6, n7, n8]
  refine OkF_of _ k3 ?_
  simp only [↓rA, rB, Int.reduceEq, Int.reduceLE, Int.reduceLT, Int.reduceToNat, Nat.reduceAdd, Nat.reduceEqDiff, Nat.reduceLT, Nat.reduceLeDiff, Nat.reduceMul, Nat.reduceSub, reduceCtorEq, tbL10, Tryd.results6, n1, n2, n3, n4, n6, n7, n8]
  exact ret_done rfl
end Go.Proofs.YtphkmlogjgeipaaDoor

/- Lowering: what a lowered list of nodes is. -/
set_option maxRecDepth 100000
namespace Go.Lo
open Go.VL Go.Ar
def szF (acc : List Nat) (n : Nd) : Nat := 1 + (n.inn.map fun t => acc.getD t.toNat 0).sum
def szStep (acc : List Nat) (n : Nd) : List Nat := acc ++ [szF acc n]
def szs (L : List Nd) : List Nat := L.foldl szStep []
theorem szs_snoc (L : List Nd) (n : Nd) : szs (L ++ [n]) = szs L ++ [szF (szs L) n] := by
  rw [szs, List.foldl_append]; rfl
theorem foldSz_pre : ∀ (M : List Nd) (acc : List Nat), acc <+: M.foldl szStep acc
  | [], acc => List.prefix_refl _
  | n :: r, acc => (List.prefix_append acc _).trans (foldSz_pre r (szStep acc n))
theorem foldSz_len : ∀ (M : List Nd) (acc : List Nat), (M.foldl szStep acc).length = acc.length + M.length
  | [], acc => rfl
  | n :: r, acc => by
    rw [List.foldl_cons, foldSz_len r, szStep, List.length_append]
    simp only [List.length_cons, List.length_nil]
    omega
theorem szs_len (L : List Nd) : (szs L).length = L.length := by
  have := foldSz_len L []
  rw [szs, this]; simp
theorem szs_pre {L L' : List Nd} (h : L <+: L') : szs L <+: szs L' := by
  obtain ⟨M, rfl⟩ := h
  rw [szs, szs, List.foldl_append]
  exact foldSz_pre M _
theorem getD_pre {a b : List Nat} (h : a <+: b) {i : Nat} (hi : i < a.length) : b.getD i 0 = a.getD i 0 := by
  obtain ⟨m, rfl⟩ := h
  simp only [List.getD_eq_getElem?_getD]
  rw [List.getElem?_append_left hi]
theorem szs_stable {L L' : List Nd} (h : L <+: L') {i : Nat} (hi : i < L.length) : (szs L').getD i 0 = (szs L).getD i 0 := getD_pre (szs_pre h) (by rw [szs_len]; exact hi)
def WF (L : List Nd) : Prop := ∀ i (h : i < L.length), ∀ t ∈ L[i].inn, 0 ≤ t ∧ t < i
theorem map_congr' {α β : Type} {f g : α → β} : ∀ {l : List α}, (∀ x ∈ l, f x = g x) → l.map f = l.map g
  | [], _ => rfl
  | x :: r, h => by rw [List.map_cons, List.map_cons, h x List.mem_cons_self, map_congr' fun y hy => h y (List.mem_cons_of_mem _ hy)]
theorem szF_stable {L L' : List Nd} (h : L <+: L') {n : Nd} (hn : ∀ t ∈ n.inn, 0 ≤ t ∧ t < L.length) : szF (szs L') n = szF (szs L) n := by
  unfold szF
  rw [map_congr' fun t ht => szs_stable h (i := t.toNat) (by have := hn t ht; omega)]
theorem szs_at {L : List Nd} (hw : WF L) {i : Nat} (hi : i < L.length) : (szs L).getD i 0 = szF (szs L) L[i] := by
  have hp : L.take i <+: L := List.take_prefix _ _
  have hp1 : L.take (i + 1) <+: L := List.take_prefix _ _
  have hl : (L.take i).length = i := by rw [List.length_take]; omega
  rw [szs_stable hp1 (i := i) (by rw [List.length_take]; omega), List.take_succ_eq_append_getElem hi, szs_snoc]
  rw [szF_stable hp (n := L[i]) (fun t ht => by rw [hl]; exact hw i hi t ht)]
  simp only [List.getD_eq_getElem?_getD]
  rw [List.getElem?_append_right (by rw [szs_len, hl]; exact Nat.le_refl _), szs_len, hl, Nat.sub_self]
  rfl
/-- L' is L with the nodes for rs (of the sizes ns); each new node is in rs or used by a later one. -/
structure Low (L L' : List Nd) (rs : List Int) (ns : List Nat) (top c : Nat) : Prop where
  pre : L <+: L'
  wf : WF L'
  nd : L'.Nodup
  rsb : ∀ t ∈ rs, 0 ≤ t ∧ t < L'.length
  nse : (rs.map fun t => (szs L').getD t.toNat 0) = ns
  topb : ∀ i, L.length ≤ i → i < L'.length → (szs L').getD i 0 ≤ top
  use : ∀ i, L.length ≤ i → i < L'.length → (i : Int) ∈ rs ∨ ∃ j, i < j ∧ ∃ h : j < L'.length, (i : Int) ∈ L'[j].inn
  cnt : L'.length ≤ L.length + c
theorem Low.refl {L : List Nd} (hw : WF L) (hn : L.Nodup) : Low L L [] [] 0 0 :=
  ⟨List.prefix_refl _, hw, hn, fun t ht => (by cases ht), rfl, fun i h1 h2 => by omega, fun i h1 h2 => by omega, Nat.le_refl _⟩
theorem pre_get {L L' : List Nd} (h : L <+: L') {j : Nat} (hj : j < L.length) : ∃ h' : j < L'.length, L'[j] = L[j] := by
  obtain ⟨M, rfl⟩ := h
  exact ⟨by rw [List.length_append]; omega, List.getElem_append_left hj⟩
theorem Low.app {L L1 L2 : List Nd} {rs rs' ns ns' a b c d} (h : Low L L1 rs ns a c) (h' : Low L1 L2 rs' ns' b d) : Low L L2 (rs ++ rs') (ns ++ ns') (max a b) (c + d) := by
  have hle : L1.length ≤ L2.length := h'.pre.length_le
  refine ⟨h.pre.trans h'.pre, h'.wf, h'.nd, ?_, ?_, ?_, ?_, ?_⟩
  · intro t ht
    rcases List.mem_append.1 ht with ht | ht
    · have := h.rsb t ht
      omega
    · exact h'.rsb t ht
  · rw [List.map_append, h'.nse, ← h.nse]
    congr 1
    exact map_congr' fun t ht => szs_stable h'.pre (by have := h.rsb t ht; omega)
  · intro i h1 h2
    rcases Nat.lt_or_ge i L1.length with hi | hi
    · rw [szs_stable h'.pre hi]
      exact Nat.le_trans (h.topb i h1 hi) (Nat.le_max_left _ _)
    · exact Nat.le_trans (h'.topb i hi h2) (Nat.le_max_right _ _)
  · intro i h1 h2
    rcases Nat.lt_or_ge i L1.length with hi | hi
    · rcases h.use i h1 hi with hr | ⟨j, hj, hjl, hm⟩
      · exact .inl (List.mem_append.2 (.inl hr))
      · obtain ⟨hj2, e⟩ := pre_get h'.pre hjl
        exact .inr ⟨j, hj, hj2, by rw [e]; exact hm⟩
    · rcases h'.use i hi h2 with hr | hr
      · exact .inl (List.mem_append.2 (.inr hr))
      · exact .inr hr
  · have := h.cnt
    have := h'.cnt
    omega
mutual
def nsE : E → Nat
  | .mk h l => if h.kind = 5 then 4 else 1 + (nsEs l).sum
def nsEs : List E → List Nat
  | [] => []
  | x :: r => nsE x :: nsEs r
end
theorem nsE_mk (h : Hd) (l : List E) : nsE (.mk h l) = if h.kind = 5 then 4 else 1 + (nsEs l).sum := by rw [nsE]
theorem Low.le {L L1 : List Nd} {rs ns a c a' c'} (h : Low L L1 rs ns a c) (ha : a ≤ a') (hc : c ≤ c') : Low L L1 rs ns a' c' :=
  ⟨h.pre, h.wf, h.nd, h.rsb, h.nse, fun i h1 h2 => Nat.le_trans (h.topb i h1 h2) ha, h.use, Nat.le_trans h.cnt (by omega)⟩
end Go.Lo
namespace Go.Proofs.YtphkmlogjgeipaaDoor
open Go.VL Go.Ar Go.Lo Go.Proofs.YtphkmlogjgeipaaDoor
theorem low_put {L L1 : List Nd} {rs ns a c} {n : Nd} (h : Low L L1 rs ns a c) (hn : n.inn = rs) : Low L (putM L1 n).1 [((putM L1 n).2 : Int)] [1 + ns.sum] (max a (1 + ns.sum)) (c + 1) := by
  by_cases hm : n ∈ L1
  · obtain ⟨hq, hqe⟩ := idxM_get hm
    rw [putM_old hm]
    have hs := szs_at h.wf hq
    rw [hqe, szF, hn, h.nse] at hs
    refine ⟨h.pre, h.wf, h.nd, ?_, ?_, fun i h1 h2 => Nat.le_trans (h.topb i h1 h2) (Nat.le_max_left _ _), ?_, by have := h.cnt; simp only; omega⟩
    · intro t ht
      obtain rfl := List.mem_singleton.1 ht
      simp only
      omega
    · simp only [List.map_cons, List.map_nil, Int.toNat_natCast]
      rw [hs]
    · intro i h1 h2
      rcases h.use i h1 h2 with hr | hr
      · have hr' : (i : Int) ∈ L1[idxM L1 n].inn := by rw [hqe, hn]; exact hr
        have := (h.wf _ hq _ hr').2
        exact .inr ⟨idxM L1 n, by omega, hq, hr'⟩
      · exact .inr hr
  · rw [putM_new hm]
    have hp : L1 <+: L1 ++ [n] := List.prefix_append _ _
    have hsz : (szs (L1 ++ [n])).getD L1.length 0 = 1 + ns.sum := by
      rw [szs_snoc]
      simp only [List.getD_eq_getElem?_getD]
      rw [List.getElem?_append_right (by rw [szs_len]; exact Nat.le_refl _), szs_len, Nat.sub_self, szF, hn]
      rw [h.nse]
      rfl
    refine ⟨h.pre.trans hp, ?_, ?_, ?_, ?_, ?_, ?_, ?_⟩
    · intro i hi t ht
      rcases Nat.lt_or_ge i L1.length with hl | hl
      · rw [List.getElem_append_left hl] at ht
        exact h.wf i hl t ht
      · have : i = L1.length := by simp only [List.length_append, List.length_cons, List.length_nil] at hi; omega
        subst this
        rw [List.getElem_append_right (Nat.le_refl _)] at ht
        simp only [Nat.sub_self, List.getElem_cons_zero] at ht
        rw [hn] at ht
        exact h.rsb t ht
    · refine List.nodup_append.2 ⟨h.nd, by simp, fun a ha b hb => ?_⟩
      obtain rfl := List.mem_singleton.1 hb
      intro e
      subst e
      exact hm ha
    · intro t ht
      obtain rfl := List.mem_singleton.1 ht
      simp only [List.length_append, List.length_cons, List.length_nil]
      omega
    · simp only [List.map_cons, List.map_nil, Int.toNat_natCast]
      rw [hsz]
    · intro i h1 h2
      rcases Nat.lt_or_ge i L1.length with hl | hl
      · rw [szs_stable hp hl]
        exact Nat.le_trans (h.topb i h1 hl) (Nat.le_max_left _ _)
      · have : i = L1.length := by simp only [List.length_append, List.length_cons, List.length_nil] at h2; omega
        subst this
        rw [hsz]
        exact Nat.le_max_right _ _
    · intro i h1 h2
      rcases Nat.lt_or_ge i L1.length with hl | hl
      · rcases h.use i h1 hl with hr | ⟨j, hj, hjl, hm'⟩
        · refine .inr ⟨L1.length, hl, by simp, ?_⟩
          rw [List.getElem_append_right (Nat.le_refl _)]
          simp only [Nat.sub_self, List.getElem_cons_zero]
          rw [hn]
          exact hr
        · obtain ⟨hj2, e⟩ := pre_get hp hjl
          exact .inr ⟨j, hj, hj2, by rw [e]; exact hm'⟩
      · have : i = L1.length := by simp only [List.length_append, List.length_cons, List.length_nil] at h2; omega
        subst this
        exact .inl (List.mem_singleton.2 rfl)
    · have := h.cnt
      simp only [List.length_append, List.length_cons, List.length_nil]
      omega
theorem lowEs_low : ∀ (l : List E) (L : List Nd), (∀ x ∈ l, ∀ L, WF L → L.Nodup → Low L (lowE L x).1 [((lowE L x).2 : Int)] [nsE x] (nsE x) (cntN x + 3 * cntM x)) → WF L → L.Nodup →
    Low L (lowEs L l).1 (lowEs L l).2 (nsEs l) (nsEs l).sum (cntNs l + 3 * cntMs l)
  | [], L, _, hw, hn => Low.refl hw hn
  | x :: r, L, h, hw, hn => by
    have h1 := h x List.mem_cons_self L hw hn
    have h2 := lowEs_low r (lowE L x).1 (fun y hy => h y (List.mem_cons_of_mem _ hy)) h1.wf h1.nd
    have h3 := h1.app h2
    rw [lowEs]
    refine Low.le h3 ?_ ?_
    · simp only [nsEs, List.sum_cons]; omega
    · simp only [cntNs, cntMs]; omega
theorem over_low (L : List Nd) (h : Hd) (a c : E) (hw : WF L) (hn : L.Nodup) : Low L (overM L h a c).1 [((overM L h a c).2 : Int)] [4] 4 4 := by
  have h1 := low_put (n := { nd0 1 with table := h.table }) (Low.refl hw hn) rfl
  have h2 := low_put (n := { nd0 2 with expr := c, inn := [((putM L { nd0 1 with table := h.table }).2 : Int)] }) h1 rfl
  have h3 := low_put (n := { nd0 3 with expr := a, inn := [((putM (putM L { nd0 1 with table := h.table }).1 { nd0 2 with expr := c, inn := [((putM L { nd0 1 with table := h.table }).2 : Int)] }).2 : Int)] }) h2 rfl
  exact low_put h3 rfl
theorem low_ok : ∀ x, Agg2 x → ∀ L, WF L → L.Nodup → Low L (lowE L x).1 [((lowE L x).2 : Int)] [nsE x] (nsE x) (cntN x + 3 * cntM x) := by
  intro x
  induction x using E.ind with
  | h hd l ih =>
  intro hg L hw hn
  cases hg with
  | mk _ _ hk ha =>
  rw [nsE_mk, cntN_mk, cntM_mk]
  by_cases e : hd.kind = 5
  · rw [if_pos e, if_pos e, if_pos e]
    match l, hk e with
    | a :: c :: r, _ =>
      rw [lowE_agg _ _ _ _ _ e]
      exact over_low L hd a c hw hn
  · rw [if_neg e, if_neg e, if_neg e, lowE_op _ _ _ e]
    have h1 := lowEs_low l L (fun x hx => ih x hx (ha x hx)) hw hn
    have h2 := low_put (n := { ownM hd l with inn := (lowEs L l).2 }) h1 rfl
    exact h2.le (by omega) (by omega)
/-- An operation's node is new, if all before are those of its operands. -/
theorem op_last (h : Hd) (l : List E) (e : ¬ h.kind = 5) (ha : ∀ x ∈ l, Agg2 x) : lowE [] (.mk h l) = ((lowEs [] l).1 ++ [{ ownM h l with inn := (lowEs [] l).2 }], (lowEs [] l).1.length) := by
  rw [lowE_op _ _ _ e]
  have h1 := lowEs_low l [] (fun x hx => low_ok x (ha x hx)) (fun i hi => by cases hi) List.nodup_nil
  refine putM_new fun hm => ?_
  obtain ⟨q, hq, hqe⟩ := List.getElem_of_mem hm
  have hs := szs_at h1.wf hq
  have ht := h1.topb q (Nat.zero_le _) hq
  rw [hqe, szF, h1.nse] at hs
  omega
theorem root_last (x : E) (hg : Agg2 x) : (lowE [] x).1.length = (lowE [] x).2 + 1 := by
  cases x with
  | mk h l =>
  cases hg with
  | mk _ _ hk ha =>
  by_cases e : h.kind = 5
  · match l, hk e with
    | a :: c :: r, _ =>
      rw [lowE_agg _ _ _ _ _ e]
      simp [overM, putM, idxM]
  · rw [op_last h l e ha]
    simp
end Go.Proofs.YtphkmlogjgeipaaDoor

/- Lowering: the graph of an expression. -/
set_option maxRecDepth 100000
namespace Go.Proofs.YtphkmlogjgeipaaDoor
open Go.VL Go.Ar Go.Lo Go.Proofs.YtphkmlogjgeipaaDoor
theorem putM_all {P : Nd → Prop} {L : List Nd} {n : Nd} (h : ∀ m ∈ L, P m) (hn : P n) : ∀ m ∈ (putM L n).1, P m := by
  intro m hm
  unfold putM at hm
  split at hm
  · exact h m hm
  · rcases List.mem_append.1 hm with hm | hm
    · exact h m hm
    · obtain rfl := List.mem_singleton.1 hm
      exact hn
theorem fit_exp0 : Fit exp0 := fitA _ (by decide)
theorem own_fit (h : Hd) (l : List E) (hf : Fit (.mk h l)) : Fit (ownM h l).expr := by
  unfold ownM
  repeat' split
  all_goals first | exact hf | exact fit_exp0
theorem own_inn (h : Hd) (l : List E) (ks : List Int) : ({ ownM h l with inn := ks } : Nd).inn = ks := rfl
theorem lowEs_fit : ∀ (l : List E) (L : List Nd), (∀ x ∈ l, ∀ L, (∀ n ∈ L, FitN n) → ∀ n ∈ (lowE L x).1, FitN n) → (∀ n ∈ L, FitN n) → ∀ n ∈ (lowEs L l).1, FitN n
  | [], L, _, h => h
  | x :: r, L, hx, h => by
    rw [lowEs]
    exact lowEs_fit r _ (fun y hy => hx y (List.mem_cons_of_mem _ hy)) (hx x List.mem_cons_self L h)
theorem low_fit : ∀ x, Fit x → ∀ L, (∀ n ∈ L, FitN n) → ∀ n ∈ (lowE L x).1, FitN n := by
  intro x
  induction x using E.ind with
  | h hd l ih =>
  intro hf L hL
  have hl := hf.len
  have ha := hf.args
  simp only [E.args] at hl ha
  rw [lowE_mk]
  split
  · unfold aggM
    split
    · rename_i a c r
      have h0 : (0 : Nat) ≤ big := Nat.zero_le _
      have h1 : (1 : Nat) ≤ big := by decide
      exact putM_all (putM_all (putM_all (putM_all hL ⟨fit_exp0, h0⟩) ⟨ha c (by simp), h1⟩) ⟨ha a (by simp), h1⟩) ⟨fit_exp0, h1⟩
    · exact hL
  · refine putM_all (lowEs_fit l L (fun y hy => ih y hy (ha y hy)) hL) ⟨own_fit hd l hf, ?_⟩
    rw [own_inn, lowEs_ks]
    exact hl
/-- What a graph is. -/
structure Gr (x : E) (L : List Nd) : Prop where
  pos : 0 < L.length
  le : L.length ≤ cntN x + 3 * cntM x
  sm : L.length ≤ 256
  nd : L.Nodup
  wf : WF L
  use : ∀ i, i + 1 < L.length → ∃ j, i < j ∧ ∃ h : j < L.length, (i : Int) ∈ L[j].inn
  fit : ∀ n ∈ L, FitN n
theorem graph_gr (x : E) (hf : Fit x) (e : shapeC x = 0) : Gr x (graphC x) := by
  obtain ⟨p1, p2, p3⟩ := shape_parts e
  have hg := proper_agg2 x false p3
  rw [graphC, if_pos e]
  have h := low_ok x hg [] (fun i hi => by cases hi) List.nodup_nil
  have hr := root_last x hg
  have hc := cnt_le x
  have hn := h.cnt
  have hlen := lowE_len x []
  simp only [List.length_nil] at hn hlen
  refine ⟨by omega, by omega, by omega, h.nd, h.wf, fun i hi => ?_, low_fit x hf [] fun n hn => by cases hn⟩
  rcases h.use i (Nat.zero_le _) (by omega) with hm | hm
  · have := List.mem_singleton.1 hm
    omega
  · exact hm
end Go.Proofs.YtphkmlogjgeipaaDoor

/- LowerShares: the walk of the law. -/
set_option linter.unusedSimpArgs false
set_option maxRecDepth 100000
namespace Go.Proofs.YtphkmlogjgeipaaDoor
open Go.VL Go.Ar Go.Lo Go.Proofs.YtphkmlogjgeipaaDoor

abbrev usedC (U : List Bool) : List V := U.map vbool
theorem used_set {U : List Bool} {i : Nat} (h : i < U.length) : (usedC U).take i ++ [V.lit (.bool true)] ++ (usedC U).drop (i + 1) = usedC (U.set i true) := by
  rw [List.set_eq_take_append_cons_drop, if_pos h]
  simp only [List.map_append, List.map_cons, List.map_take, List.map_drop, List.append_assoc, List.cons_append, List.nil_append]
theorem used_drop {U : List Bool} {i : Nat} (h : U[i]? = some true) : (usedC U).drop i = vbool true :: (usedC U).drop (i + 1) := by
  obtain ⟨hl, he⟩ := List.getElem?_eq_some_iff.1 h
  rw [List.drop_eq_getElem_cons (by simpa using hl)]
  simp [he]
set_option linter.defProp false in
def tbL40 := (And.intro (And.intro (And.intro (And.intro (And.intro (And.intro (And.intro Ty.sz3 Ty.by3) (And.intro Ty.ag3 Ty.zr3)) (And.intro (And.intro Ty.un3 Ty.sz4) (And.intro Ty.by4 Ty.ag4))) (And.intro (And.intro (And.intro Ty.zr4 Ty.un4) (And.intro Ty.sz9 Ty.by9)) (And.intro (And.intro Ty.ag9 Ty.zr9) (And.intro Ty.un9 Ty.sz23)))) (And.intro (And.intro (And.intro (And.intro Ty.by23 Ty.ag23) (And.intro Ty.zr23 Ty.fl23_0)) (And.intro (And.intro Ty.pl23_0 Ty.fl23_1) (And.intro Ty.pl23_1 Ty.fl23_2))) (And.intro (And.intro (And.intro Ty.pl23_2 Ty.sz24) (And.intro Ty.by24 Ty.ag24)) (And.intro (And.intro Ty.zr24 Ty.un24) (And.intro Ty.sz26 (And.intro Ty.by26 Ty.ag26)))))) (And.intro (And.intro (And.intro (And.intro (And.intro Ty.zr26 Ty.fl26_0) (And.intro Ty.pl26_0 Ty.fl26_1)) (And.intro (And.intro Ty.pl26_1 Ty.sz27) (And.intro Ty.by27 Ty.ag27))) (And.intro (And.intro (And.intro Ty.zr27 Ty.un27) (And.intro Ty.sz29 Ty.by29)) (And.intro (And.intro Ty.ag29 Ty.zr29) (And.intro Ty.fl29_0 (And.intro Ty.pl29_0 Ty.fl29_1))))) (And.intro (And.intro (And.intro (And.intro Ty.pl29_1 Ty.fl29_2) (And.intro Ty.pl29_2 Ty.fl29_3)) (And.intro (And.intro Ty.pl29_3 Ty.fl29_4) (And.intro Ty.pl29_4 Ty.fl29_5))) (And.intro (And.intro (And.intro Ty.pl29_5 Ty.fl29_6) (And.intro Ty.pl29_6 Ty.fl29_7)) (And.intro (And.intro Ty.pl29_7 Ty.fl29_8) (And.intro Ty.pl29_8 (And.intro Ty.sz31 Ty.by31))))))) (And.intro (And.intro (And.intro (And.intro (And.intro (And.intro Ty.ag31 Ty.zr31) (And.intro Ty.un31 Ty.sz33)) (And.intro (And.intro Ty.by33 Ty.ag33) (And.intro Ty.zr33 Ty.fl33_0))) (And.intro (And.intro (And.intro Ty.pl33_0 Ty.sz34) (And.intro Ty.by34 Ty.ag34)) (And.intro (And.intro Ty.zr34 Ty.un34) (And.intro Ty.sz35 Ty.by35)))) (And.intro (And.intro (And.intro (And.intro Ty.ag35 Ty.sz37) (And.intro Ty.by37 Ty.ag37)) (And.intro (And.intro Ty.sz39 Ty.by39) (And.intro Ty.ag39 Ty.zr39))) (And.intro (And.intro (And.intro Ty.un39 Ty.sz41) (And.intro Ty.by41 Ty.ag41)) (And.intro (And.intro Ty.zr41 Ty.un41) (And.intro Ty.sz43 (And.intro Ty.by43 Ty.ag43)))))) (And.intro (And.intro (And.intro (And.intro (And.intro Ty.zr43 Ty.fl43_0) (And.intro Ty.pl43_0 Ty.fl43_1)) (And.intro (And.intro Ty.pl43_1 Ty.fl43_2) (And.intro Ty.pl43_2 Ty.fl43_3))) (And.intro (And.intro (And.intro Ty.pl43_3 Ty.fl43_4) (And.intro Ty.pl43_4 Ty.fl43_5)) (And.intro (And.intro Ty.pl43_5 Ty.fl43_6) (And.intro Ty.pl43_6 (And.intro Ty.fl43_7 Ty.pl43_7))))) (And.intro (And.intro (And.intro (And.intro Ty.fl43_8 Ty.pl43_8) (And.intro Ty.sz105 Ty.by105)) (And.intro (And.intro Ty.ag105 Ty.zr105) (And.intro Ty.fl105_0 Ty.pl105_0))) (And.intro (And.intro (And.intro Ty.fl105_1 Ty.pl105_1) (And.intro Ty.eq23 Ty.eq26)) (And.intro (And.intro Ty.eq105 Ty.cb6) (And.intro Ty.cb7 (And.intro Ty.cb8 Ty.cb9))))))))
theorem shares_ok (x : E) (hf : Fit x) (hb : depthE x ≤ big) : OkP Tryd.prog 3 [vE x] (vbool true) := by
  have hg := graph_ok x hf hb
  have he := example_ok
  simp only [vE, cE_eq x] at hg ⊢
  refine Ok.of_ex Ty.mixed Tryd.func3 rfl (by simp [Tryd.ntmps3]) (by kernel_rfl) fun F w0 I0 => ?_
  simp only [↓rA, rB, Int.reduceEq, Int.reduceLE, Int.reduceLT, Int.reduceToNat, Nat.reduceAdd, Nat.reduceEqDiff, Nat.reduceLT, Nat.reduceLeDiff, Nat.reduceMul, Nat.reduceSub, reduceCtorEq, tbL40, Tryd.results3]
  refine fun b1 n1 => ?_; replace n1 := newb n1; try simp only [Nb] at n1
  simp only [↓rA, rB, Int.reduceEq, Int.reduceLE, Int.reduceLT, Int.reduceToNat, Nat.reduceAdd, Nat.reduceEqDiff, Nat.reduceLT, Nat.reduceLeDiff, Nat.reduceMul, Nat.reduceSub, reduceCtorEq, tbL40, Tryd.results3, n1]
  refine OkF_of _ he ?_
  simp only [↓rA, rB, Int.reduceEq, Int.reduceLE, Int.reduceLT, Int.reduceToNat, Nat.reduceAdd, Nat.reduceEqDiff, Nat.reduceLT, Nat.reduceLeDiff, Nat.reduceMul, Nat.reduceSub, reduceCtorEq, tbL40, Tryd.results3, n1]
  refine OkF_of _ hg ?_
  by_cases e : shapeC x = 0
  case neg =>
    have hz : graphC x = [] := by rw [graphC, if_neg e]
    rw [hz]
    simp only [↓rA, rB, Int.reduceEq, Int.reduceLE, Int.reduceLT, Int.reduceToNat, Nat.reduceAdd, Nat.reduceEqDiff, Nat.reduceLT, Nat.reduceLeDiff, Nat.reduceMul, Nat.reduceSub, reduceCtorEq, tbL40, Tryd.results3, n1, e]
    refine fun b4 n4 => ?_; replace n4 := newb n4; try simp only [Nb] at n4
    simp only [↓rA, rB, Int.reduceEq, Int.reduceLE, Int.reduceLT, Int.reduceToNat, Nat.reduceAdd, Nat.reduceEqDiff, Nat.reduceLT, Nat.reduceLeDiff, Nat.reduceMul, Nat.reduceSub, reduceCtorEq, tbL40, Tryd.results3, n1, n4, e]
    exact ret_done rfl
  obtain ⟨p1, p2, p3⟩ := shape_parts e
  have hG := graph_gr x hf e
  rw [e]
  generalize graphC x = L at hG ⊢
  have hcnt := count_ok x hf (by unfold big; omega)
  simp only [vE, cE_eq x] at hcnt
  have hcl := cnt_le x
  simp only [↓rA, rB, Int.reduceEq, Int.reduceLE, Int.reduceLT, Int.reduceToNat, Nat.reduceAdd, Nat.reduceEqDiff, Nat.reduceLT, Nat.reduceLeDiff, Nat.reduceMul, Nat.reduceSub, reduceCtorEq, tbL40, Tryd.results3, n1]
  refine fun b4 n4 => ?_; replace n4 := newb n4; try simp only [Nb] at n4
  simp only [↓rA, rB, Int.reduceEq, Int.reduceLE, Int.reduceLT, Int.reduceToNat, Nat.reduceAdd, Nat.reduceEqDiff, Nat.reduceLT, Nat.reduceLeDiff, Nat.reduceMul, Nat.reduceSub, reduceCtorEq, tbL40, Tryd.results3, n1, n4]
  refine OkF_of _ hcnt ?_
  have hw3 : IntKind.i64.wrap (3 * (cntM x : Int)) = 3 * (cntM x : Int) := wrap_id (by omega) (by omega)
  have hwn : IntKind.i64.wrap ((cntN x : Int) + 3 * (cntM x : Int)) = (cntN x : Int) + 3 * (cntM x : Int) := wrap_id (by omega) (by omega)
  have hle := hG.le
  have hpos := hG.pos
  have hsm := hG.sm
  have hc1 : ¬ (cntN x : Int) + 3 * (cntM x : Int) < (L.length : Int) := by omega
  have hc2 : ¬ (L.length : Int) = 0 := by omega
  simp only [↓rA, rB, Int.reduceEq, Int.reduceLE, Int.reduceLT, Int.reduceToNat, Nat.reduceAdd, Nat.reduceEqDiff, Nat.reduceLT, Nat.reduceLeDiff, Nat.reduceMul, Nat.reduceSub, reduceCtorEq, tbL40, Tryd.results3, n1, n4, hw3, hwn, hc1, hc2, List.length_map]
  refine ⟨⟨by omega, by omega⟩, ?_⟩
  refine fun b8 n8 => ?_; replace n8 := newb n8; try simp only [Nb] at n8
  have hrep : (List.replicate L.length [V.lit (Value.bool false)]).flatten = usedC (List.replicate L.length false) := by
    induction L.length with
    | zero => rfl
    | succ n ih => rw [List.replicate_succ, List.flatten_cons, ih]; rfl
  have hw1 : IntKind.i64.wrap ((L.length : Int) - 1) = ((L.length - 1 : Nat) : Int) := by rw [wrap_id (by omega) (by omega)]; omega
  have hlt : ((L.length - 1 : Nat) : Int) < (L.length : Int) := by omega
  simp only [↓rA, rB, Int.reduceEq, Int.reduceLE, Int.reduceLT, Int.reduceToNat, Nat.reduceAdd, Nat.reduceEqDiff, Nat.reduceLT, Nat.reduceLeDiff, Nat.reduceMul, Nat.reduceSub, reduceCtorEq, tbL40, Tryd.results3, n1, n4, n8, List.length_map, hw1, hlt, hrep, Nat.mul_one]
  refine ⟨by rw [List.length_replicate]; omega, ?_⟩
  refine EX_for Ty.mixed (by kernel_rfl) L.length (fun t S => (∃ U : List Bool, U.length = L.length ∧ (∀ j, j < L.length → (j + 1 = L.length ∨ ∃ j', L.length ≤ j' + t ∧ ∃ h : j' < L.length, (j : Int) ∈ L[j'].inn) → U[j]? = some true) ∧ S.boxes = [(b8, .c (usedC U)), (b4, .c [vNds L]), (b1, .c (cH x.hd (vEs x.args)))]) ∧ S.rows = [] ∧ S.σ 3 = vbool true ∧ S.σ 4 = ptr b4 ∧ S.σ 8 = .lit (.slice (some ⟨b8, 0, none⟩) L.length L.length) ∧ S.σ 9 = vint ((L.length : Int) - 1 - t)) ⟨0, ?_⟩ (fun t S ht ⟨⟨U, hU, hUs, gb⟩, gr, g3, g4, g8, g9⟩ => ?_) (fun S ⟨⟨U, hU, hUs, gb⟩, gr, g3, g4, g8, g9⟩ => ?_)
  · simp only [↓rA, rB, Int.reduceEq, Int.reduceLE, Int.reduceLT, Int.reduceToNat, Nat.reduceAdd, Nat.reduceEqDiff, Nat.reduceLT, Nat.reduceLeDiff, Nat.reduceMul, Nat.reduceSub, reduceCtorEq, tbL40, Tryd.results3, n1, n4, n8, hrep]
    refine ⟨⟨(List.replicate L.length false).set (L.length - 1) true, by simp, fun j hj h => ?_, by rw [used_set (by rw [List.length_replicate]; omega)]⟩, ?_⟩
    · have : j = L.length - 1 := by
        rcases h with h | ⟨j', h1, h2, _⟩ <;> omega
      subst this
      rw [List.getElem?_set_self (by rw [List.length_replicate]; omega)]
    · show vint _ = vint _
      congr 1
      omega
  · obtain ⟨i, hi⟩ : ∃ i : Nat, i = L.length - 1 - t := ⟨_, rfl⟩
    have hil : i < L.length := by omega
    have hii : (L.length : Int) - 1 - t = (i : Int) := by omega
    rw [hii] at g9
    simp only [↓rA, rB, Int.reduceEq, Int.reduceLE, Int.reduceLT, Int.reduceToNat, Nat.reduceAdd, Nat.reduceEqDiff, Nat.reduceLT, Nat.reduceLeDiff, Nat.reduceMul, Nat.reduceSub, reduceCtorEq, tbL40, Tryd.results3, gb, gr, g3, g4, g8, g9, n1, n4, n8, List.length_map]
    refine EX_for Ty.mixed (by kernel_rfl) i (fun j S => S.boxes = [(b8, .c (usedC U)), (b4, .c [vNds L]), (b1, .c (cH x.hd (vEs x.args)))] ∧ S.rows = [] ∧ S.σ 3 = vbool true ∧ S.σ 4 = ptr b4 ∧ S.σ 8 = .lit (.slice (some ⟨b8, 0, none⟩) L.length L.length) ∧ S.σ 9 = vint i ∧ S.σ 10 = vint j) ⟨0, ?_⟩ (fun j S hj ⟨gb, gr, g3, g4, g8, g9, g10⟩ => ?_) (fun S ⟨gb, gr, g3, g4, g8, g9, g10⟩ => ?_)
    · simp only [↓rA, rB, Int.reduceEq, Int.reduceLE, Int.reduceLT, Int.reduceToNat, Nat.reduceAdd, Nat.reduceEqDiff, Nat.reduceLT, Nat.reduceLeDiff, Nat.reduceMul, Nat.reduceSub, reduceCtorEq, tbL40, Tryd.results3, gb, gr, g3, g4, g8, g9, n1, n4, n8]
      try exact rfl
    · have hjl : j < L.length := by omega
      have hwj := wrap_succ (i := j) (N := i) hj (by omega)
      have hne : ¬ L[i] = L[j] := fun h => by
        have := (List.getElem_inj hG.nd).1 h
        omega
      have hsn := sameNodeR_ok L[i] L[j] (hG.fit _ (List.getElem_mem hil))
      rw [decide_eq_false hne] at hsn
      simp only [cNd_eq] at hsn
      simp only [↓rA, rB, Int.reduceEq, Int.reduceLE, Int.reduceLT, Int.reduceToNat, Nat.reduceAdd, Nat.reduceEqDiff, Nat.reduceLT, Nat.reduceLeDiff, Nat.reduceMul, Nat.reduceSub, reduceCtorEq, tbL40, Tryd.results3, gb, gr, g3, g4, g8, g9, g10, n1, n4, n8, Int.ofNat_lt, hj, hil, hjl, List.length_map, getD_map _ _ _ hil, getD_map _ _ _ hjl, cNd_eq]
      refine CallV_of _ hsn.v ?_
      simp only [↓rA, rB, Int.reduceEq, Int.reduceLE, Int.reduceLT, Int.reduceToNat, Nat.reduceAdd, Nat.reduceEqDiff, Nat.reduceLT, Nat.reduceLeDiff, Nat.reduceMul, Nat.reduceSub, reduceCtorEq, tbL40, Tryd.results3, gb, gr, g3, g4, g8, g9, g10, n1, n4, n8, hwj]
      exact ⟨0, rfl⟩
    · simp only [↓rA, rB, Int.reduceEq, Int.reduceLE, Int.reduceLT, Int.reduceToNat, Nat.reduceAdd, Nat.reduceEqDiff, Nat.reduceLT, Nat.reduceLeDiff, Nat.reduceMul, Nat.reduceSub, reduceCtorEq, tbL40, Tryd.results3, gb, gr, g3, g4, g8, g9, g10, n1, n4, n8, Int.ofNat_lt, Nat.lt_irrefl]
      have hbn := (hG.fit _ (List.getElem_mem hil)).2
      unfold big at hbn
      have hni := hG.wf i hil
      have huse : i + 1 = L.length ∨ ∃ j', L.length ≤ j' + t ∧ ∃ h : j' < L.length, (i : Int) ∈ L[j'].inn := by
        rcases Nat.lt_or_ge (i + 1) L.length with h | h
        · obtain ⟨j', h1, h2, h3⟩ := hG.use i h
          exact .inr ⟨j', by omega, h2, h3⟩
        · exact .inl (by omega)
      refine EX_for Ty.mixed (by kernel_rfl) L[i].inn.length (fun k S => (∃ U' : List Bool, U'.length = L.length ∧ (∀ j : Nat, U[j]? = some true → U'[j]? = some true) ∧ (∀ k' : Nat, k' < k → ∀ h : k' < L[i].inn.length, U'[(L[i].inn[k']).toNat]? = some true) ∧ S.boxes = [(b8, .c (usedC U')), (b4, .c [vNds L]), (b1, .c (cH x.hd (vEs x.args)))]) ∧ S.rows = [] ∧ S.σ 3 = vbool true ∧ S.σ 4 = ptr b4 ∧ S.σ 8 = .lit (.slice (some ⟨b8, 0, none⟩) L.length L.length) ∧ S.σ 9 = vint i ∧ S.σ 11 = vint k) ⟨0, ?_⟩ (fun k S hk ⟨⟨U', hU', hUU, hUk, gb⟩, gr, g3, g4, g8, g9, g11⟩ => ?_) (fun S ⟨⟨U', hU', hUU, hUk, gb⟩, gr, g3, g4, g8, g9, g11⟩ => ?_)
      · simp only [↓rA, rB, Int.reduceEq, Int.reduceLE, Int.reduceLT, Int.reduceToNat, Nat.reduceAdd, Nat.reduceEqDiff, Nat.reduceLT, Nat.reduceLeDiff, Nat.reduceMul, Nat.reduceSub, reduceCtorEq, tbL40, Tryd.results3, gb, gr, g3, g4, g8, g9, n1, n4, n8]
        exact ⟨U, hU, fun _ h => h, fun _ h => absurd h (Nat.not_lt_zero _), rfl⟩
      · have hwk := wrap_succ (i := k) (N := L[i].inn.length) hk (by omega)
        have hmem := List.getElem_mem hk
        obtain ⟨h0, h1⟩ := hni _ hmem
        obtain ⟨u, hu⟩ : ∃ u : Nat, L[i].inn[k] = (u : Int) := ⟨L[i].inn[k].toNat, by omega⟩
        have hu0 : ¬ (u : Int) < 0 := by omega
        have hu1 : ¬ (i : Int) ≤ (u : Int) := by omega
        have hu2 : u < L.length := by omega
        have hu3 : u < U'.length := by omega
        have hset := used_set (U := U') (i := u) hu3
        simp only [↓rA, rB, Int.reduceEq, Int.reduceLE, Int.reduceLT, Int.reduceToNat, Nat.reduceAdd, Nat.reduceEqDiff, Nat.reduceLT, Nat.reduceLeDiff, Nat.reduceMul, Nat.reduceSub, reduceCtorEq, tbL40, Tryd.results3, gb, gr, g3, g4, g8, g9, g11, n1, n4, n8, Int.ofNat_lt, hk, hil, List.length_map, getD_map _ _ _ hil, getD_map _ _ _ hk, cNd_eq, hu, hu0, hu1, hu2, hwk, Nat.mul_one]
        refine ⟨hu3, 0, U'.set u true, by rw [List.length_set]; exact hU', fun j hj => ?_, fun k' hk' h => ?_, ?_⟩
        · rw [List.getElem?_set]
          split
          · rfl
          · exact hUU j hj
        · rcases Nat.lt_or_ge k' k with h' | h'
          · rw [List.getElem?_set]
            split
            · rfl
            · exact hUk k' h' h
          · have : k' = k := by omega
            subst this
            rw [hu, Int.toNat_natCast, List.getElem?_set_self hu3]
        · rw [hset]
          rfl
      · have hUi := hUU _ (hUs i hil huse)
        have hwm : IntKind.i64.wrap ((i : Int) - 1) = (i : Int) - 1 := wrap_id (by omega) (by omega)
        simp only [↓rA, rB, Int.reduceEq, Int.reduceLE, Int.reduceLT, Int.reduceToNat, Nat.reduceAdd, Nat.reduceEqDiff, Nat.reduceLT, Nat.reduceLeDiff, Nat.reduceMul, Nat.reduceSub, reduceCtorEq, tbL40, Tryd.results3, gb, gr, g3, g4, g8, g9, g11, n1, n4, n8, Int.ofNat_lt, Nat.lt_irrefl, hil, List.length_map, getD_map _ _ _ hil, cNd_eq, Nat.mul_one, used_drop hUi, hwm]
        refine ⟨0, ⟨U', hU', fun j hj h => ?_, rfl⟩, ?_⟩
        · rcases h with h | ⟨j', h1, h2, h3⟩
          · exact hUU j (hUs j hj (.inl h))
          · rcases Nat.lt_or_ge (j' + t) L.length with h4 | h4
            · have : j' = i := by omega
              subst this
              obtain ⟨k, hk, he⟩ := List.getElem_of_mem h3
              have := hUk k hk hk
              rw [he, Int.toNat_natCast] at this
              exact this
            · exact hUU j (hUs j hj (.inr ⟨j', h4, h2, h3⟩))
        · show vint _ = vint _
          congr 1
          omega
  · have hm : ¬ (0 : Int) ≤ (L.length : Int) - 1 - L.length := by omega
    simp only [↓rA, rB, Int.reduceEq, Int.reduceLE, Int.reduceLT, Int.reduceToNat, Nat.reduceAdd, Nat.reduceEqDiff, Nat.reduceLT, Nat.reduceLeDiff, Nat.reduceMul, Nat.reduceSub, reduceCtorEq, tbL40, Tryd.results3, gb, gr, g3, g4, g8, g9, hm]
    exact ret_done rfl
end Go.Proofs.YtphkmlogjgeipaaDoor

/- Lowering: what comes in: expressions out of typed cells; the package variables that the rows list. -/
set_option linter.unusedSimpArgs false
set_option maxRecDepth 100000
namespace Go.Proofs.YtphkmlogjgeipaaDoor
open Go.VL Go.Ar Go.Lo Go.RowKit Go.ChangeShapes Go.WideShapes Go.Proofs.YtphkmlogjgeipaaDoor

/-! ### Variables that hold strings -/
theorem strs_lies {P : Program} {w : World} {I : Cells} {enc : TypeId × Value → Unit} {base : Nat} {spare : Nat → Bool} {held : Bool} {n : Nat} {e : TypeId} {b o : Nat} (hI : ∀ b o x, w.cell? ⟨b, o, none⟩ = some x → I b o) (he : P.underlying e = some .string) :
    ∀ (ss : List ByteArray) (j : Nat) (elems : List (DataW Unit × List MemPlace)), elems.map (·.1) = ss.map (fun s => .lit (.string s.data.toList)) →
      (∀ i, i < ss.length → (w.cells? base ((⟨b, o, none⟩ : Addr).add ((j + i) * 1)) 1).bind (DataW.trod enc P w base spare held n e) = elems[i]?) → V.lies w I 1 (ss.map fun s => [V.lit (.string s)]) b (o + j)
  | [], j, elems, _, _ => by simp only [List.map_nil, V.lies]
  | s :: ss, j, [], h, _ => by simp at h
  | s :: ss, j, y :: elems, h, hd => by
    simp only [List.map_cons, List.cons.injEq] at h
    have h0 := hd 0 (by simp)
    simp only [Nat.add_zero, Nat.mul_one, List.getElem?_cons_zero, Option.bind_eq_some_iff] at h0
    obtain ⟨cs, hcs, ht⟩ := h0
    obtain ⟨s', rfl, hy, _⟩ := DataW.trod_string he ht
    have hs : s' = s := by
      have h1 := h.1
      rw [hy] at h1
      simp only [DataW.lit.injEq, Lit.string.injEq] at h1
      obtain ⟨⟨l⟩⟩ := s
      obtain ⟨⟨l'⟩⟩ := s'
      simp only at h1
      rw [h1]
    subst hs
    obtain ⟨_, _, hcell⟩ := World.cells?_some hcs
    have hc0 := hcell 0 (by simp)
    simp only [List.getElem?_cons_zero] at hc0
    have hc1 : w.cell? ⟨b, o + j, none⟩ = some (.string s') := by
      rw [← hc0]
      by_cases hj : j = 0
      · subst hj; rfl
      · simp [Addr.add, hj]
    simp only [List.map_cons, V.lies, V.ats]
    refine ⟨⟨⟨_, hc1, hI _ _ _ hc1, by simp [Go.VL.one], by simp only [V.rep]⟩, trivial⟩, rfl, ?_⟩
    have ih := strs_lies (enc := enc) (base := base) (spare := spare) (held := held) (n := n) hI he ss (j + 1) elems h.2 fun i hi => by
      have := hd (i + 1) (by simp only [List.length_cons]; omega)
      rw [show j + (i + 1) = j + 1 + i by omega] at this
      simpa using this
    exact ih
theorem strs_rep {P : Program} {w : World} {I : Cells} {enc : TypeId × Value → Unit} {base : Nat} {spare : Nat → Bool} {held : Bool} {fuel : Nat} {t e : TypeId} {cs : List Value} {p : List MemPlace} (hI : ∀ b o x, w.cell? ⟨b, o, none⟩ = some x → I b o)
    (hu : P.underlying t = some (.slice e)) (he : P.underlying e = some .string) (hc : P.cellsOf e = 1) (s : ByteArray) (ss : List ByteArray)
    (h : DataW.trod enc P w base spare held fuel t cs = some (.slice ((s :: ss).map fun s => .lit (.string s.data.toList)) [], p)) : ∃ x, cs = [x] ∧ Go.VL.one x ∧ V.rep w I (.list none 1 ((s :: ss).map fun s => [V.lit (.string s)])) x := by
  rcases DataW.trod_slice hu h with ⟨_, hx⟩ | ⟨a, len, cap, elems, rest, n, rfl, rfl, hx, hb, hl, hm, hlen, hel, _, _⟩
  · cases hx
  · simp only [Prod.mk.injEq, DataW.slice.injEq] at hx
    obtain ⟨⟨hx1, hx2⟩, _⟩ := hx
    have hss : elems.length = ss.length + 1 := by
      have := congrArg List.length hx1
      simpa using this.symm
    obtain ⟨b, o, spot⟩ := a
    have hspot : spot = none := by
      have h0 := hel 0 (by omega)
      rw [hc, show elems[0]? = some (elems[0]'(by omega)) from by simp, Option.bind_eq_some_iff] at h0
      obtain ⟨cs0, hcs0, _⟩ := h0
      obtain ⟨_, hl0, hcell0⟩ := World.cells?_some hcs0
      have g0 := hcell0 0 (by omega)
      obtain ⟨c0, hc0⟩ : ∃ c0, cs0[0]? = some c0 := ⟨cs0[0]'(by omega), by simp⟩
      rw [hc0] at g0
      have := World.cell?_spot g0
      cases spot with
      | none => rfl
      | some q => simp [Addr.add] at this
    subst hspot
    have hls := strs_lies (b := b) (o := o) hI he (s :: ss) 0 elems hx1.symm fun i hi => by
      have := hel i (by simp only [List.length_cons] at hi; omega)
      rw [hc] at this
      rw [Nat.zero_add]
      exact this
    refine ⟨_, rfl, by simp [Go.VL.one], ?_⟩
    simp only [V.rep]
    refine ⟨fun y hy => (by cases hy), some ⟨b, o, none⟩, cap, ?_, ?_, .inr ⟨b, o, rfl, hls⟩⟩
    · simp only [List.length_map, List.length_cons]; congr 1; omega
    · simp only [List.length_map, List.length_cons]; omega
theorem glob_of {W : World} (h : laidMetH Tryd.prog Rows.lowerSharesUptoRow.laid W) (hsh : W.ShapedOpen Tryd.prog) : Glob W fun b _ => b < W.heap.size := by
  have hI : ∀ b o x, W.cell? ⟨b, o, none⟩ = some x → (fun b _ => b < W.heap.size : Cells) b o := fun b o x hx => by
    unfold World.cell? at hx
    show b < W.heap.size
    by_cases h : b < W.heap.size
    · exact h
    · rw [Array.getElem?_eq_none (by simpa using h)] at hx; simp at hx
  have one : ∀ {nm : String} {g t : Nat} {g' t' : Nat} {cs : Array Value} {fuel : Nat} {p : List MemPlace} (s : ByteArray) (ss : List ByteArray), Tryd.prog.globalNamed nm = some g → (Tryd.prog.globals[g]?).map (·.type) = some t → Tryd.prog.underlying t = some (.slice 9) → 
      Tryd.prog.globalNamed nm = some g' → (Tryd.prog.globals[g']?).map (·.type) = some t' → W.var? Tryd.prog nm = some cs → DataW.trod (fun _ => ()) Tryd.prog W 0 (fun _ => true) false fuel t' cs.toList = some (.slice ((s :: ss).map fun s => .lit (.string s.data.toList)) [], p) →
      V.ats W (fun b _ => b < W.heap.size) [.list none 1 ((s :: ss).map fun s => [V.lit (.string s)])] g 0 := by
    intro nm g t g' t' cs fuel p s ss hg ht hu hg' ht' hvar hd
    obtain rfl := Option.some.inj (hg.symm.trans hg')
    obtain rfl := Option.some.inj (ht.symm.trans ht')
    obtain ⟨x, hx, h1, hr⟩ := strs_rep (I := fun b _ => b < W.heap.size) hI hu Ty.un9 (by kernel_rfl) s ss hd
    have hc := World.var?_cell hg hvar 0
    have hx' : cs[0]? = some x := by
      have := congrArg (·[0]?) hx
      simpa using this
    rw [hx'] at hc
    simp only [V.ats]
    exact ⟨⟨x, hc, hI _ _ _ hc, h1, hr⟩, trivial⟩
  obtain ⟨ps, ⟨g0, t0, cs0, f0, p0, q0, a0, b0, c0, d0, ⟨g1, t1, cs1, f1, p1, q1, a1, b1, c1, d1, ⟨g2, t2, cs2, f2, p2, q2, a2, b2, c2, d2, _⟩, _⟩, _⟩, _⟩ := h
  refine ⟨fun p hp => ?_, fun g hg => ?_⟩
  · have hp' : p ∈ globsV := hp
    simp only [globsV, List.mem_cons, List.not_mem_nil, or_false] at hp'
    rcases hp' with rfl | rfl | rfl
    · exact one (t := 82) ⟨#[99, 111, 117, 110, 116]⟩ [⟨#[115, 117, 109]⟩, ⟨#[109, 101, 97, 110]⟩, ⟨#[109, 105, 110]⟩, ⟨#[109, 97, 120]⟩, ⟨#[102, 105, 114, 115, 116]⟩, ⟨#[108, 97, 115, 116]⟩, ⟨#[100, 105, 115, 116, 105, 110, 99, 116]⟩, ⟨#[113, 117, 97, 110, 116, 105, 108, 101]⟩, ⟨#[100, 101, 99, 97, 121]⟩] (by kernel_rfl : Tryd.prog.globalNamed "asof/checker.aggregates" = some 0) (by kernel_rfl) (by kernel_rfl) a0 b0 c0 d0
    · exact one (t := 82) ⟨#[45]⟩ [⟨#[110, 111, 116]⟩, ⟨#[110, 117, 108, 108]⟩] (by kernel_rfl : Tryd.prog.globalNamed "asof/checker.unary" = some 1) (by kernel_rfl) (by kernel_rfl) a1 b1 c1 d1
    · exact one (t := 82) ⟨#[43]⟩ [⟨#[45]⟩, ⟨#[42]⟩, ⟨#[47]⟩, ⟨#[61, 61]⟩, ⟨#[33, 61]⟩, ⟨#[60]⟩, ⟨#[60, 61]⟩, ⟨#[97, 110, 100]⟩, ⟨#[111, 114]⟩] (by kernel_rfl : Tryd.prog.globalNamed "asof/checker.binary" = some 2) (by kernel_rfl) (by kernel_rfl) a2 b2 c2 d2
  · obtain rfl := List.mem_singleton.1 hg
    obtain ⟨m, hm⟩ := cell_of_shapedOpen_int (P := Tryd.prog) (g := 3) (t := 3) (zero := #[.int .i64 0]) hsh (of_decide_eq_true (by kernel_rfl)) (by kernel_rfl) rfl (by kernel_rfl) (by kernel_rfl) Ty.un3
    exact ⟨m, hm, hI _ _ _ hm⟩
/-! ### Expressions and graphs that came in -/
theorem bulks_pos : ∀ vs : List V, vs.length ≤ V.bulks vs
  | [] => Nat.zero_le _
  | v :: r => by
    have := bulks_pos r
    have h1 : 1 ≤ V.bulk v := by
      cases v with
      | lit x => cases x <;> simp [V.bulk]
      | list a k es => simp [V.bulk]
      | _ => simp [V.bulk]
    simp only [V.bulks, List.length_cons]; omega
theorem inv_list {α : Type} {t e : TypeId} {k d m : Nat} (hu : Tryd.prog.underlying t = some (.slice e)) (hk : Tryd.prog.cellsOf e = k) (c : α → List V) (G : α → Prop) (wt : α → Nat) 
    (inv : ∀ vs, V.bulks vs ≤ m → TV Tryd.prog d e vs → ∃ x, LeL vs (c x) ∧ G x ∧ wt x ≤ V.bulks vs) (pos : ∀ x, 0 < (c x).length) {v : V} (h : TV Tryd.prog (d + 1) t [v]) (hm : V.bulk v ≤ m) :
    ∃ l : List α, Le v (.list none k (l.map c)) ∧ l.length + 1 ≤ V.bulk v ∧ ∀ x ∈ l, G x ∧ wt x + 1 ≤ V.bulk v := by
  simp only [TV, hu] at h
  rcases h with h | ⟨es, h, hmax, hes⟩
  · cases h
    exact ⟨[], Le.nil k, by simp [V.bulk], fun x hx => by cases hx⟩
  · rw [hk] at h
    cases h
    clear hmax
    have hb : V.bulk (.list none k es) = V.bulkss es + 1 := by simp [V.bulk]
    rw [hb] at hm ⊢
    have : ∃ l : List α, LeLL es (l.map c) ∧ l.length ≤ V.bulkss es ∧ ∀ x ∈ l, G x ∧ wt x ≤ V.bulkss es := by
      clear hb
      induction es with
      | nil => exact ⟨[], .nil, Nat.zero_le _, fun x hx => by cases hx⟩
      | cons y es ih =>
        simp only [V.bulkss] at hm
        obtain ⟨x, h1, h2, h3⟩ := inv y (by omega) (hes y List.mem_cons_self)
        obtain ⟨l, g1, g2, g3⟩ := ih (fun z hz => hes z (List.mem_cons_of_mem _ hz)) (by omega)
        have hp := bulks_pos y
        rw [LeL_len h1] at hp
        have := pos x
        refine ⟨x :: l, .cons h1 g1, ?_, ?_⟩
        · simp only [List.length_cons, V.bulkss]; omega
        · intro z hz
          rcases List.mem_cons.1 hz with rfl | hz
          · exact ⟨h2, by simp only [V.bulkss]; omega⟩
          · obtain ⟨q1, q2⟩ := g3 z hz
            exact ⟨q1, by simp only [V.bulkss]; omega⟩
    obtain ⟨l, g1, g2, g3⟩ := this
    exact ⟨l, Le.lists g1, by omega, fun x hx => ⟨(g3 x hx).1, by have := (g3 x hx).2; omega⟩⟩
theorem inv_int {d : Nat} {v : List V} (h : TV Tryd.prog d 3 v) : ∃ n, v = [vint n] := by
  cases d with
  | zero => exact h.elim
  | succ d =>
    simp only [TV, Ty.un3] at h
    obtain ⟨n, rfl, hw⟩ := h
    exact ⟨n, rfl⟩
theorem inv_str {d : Nat} {v : List V} (h : TV Tryd.prog d 9 v) : ∃ s : Str, v = [vstr s] := by
  cases d with
  | zero => exact h.elim
  | succ d =>
    simp only [TV, Ty.un9] at h
    obtain ⟨s, rfl, _⟩ := h
    exact ⟨s, rfl⟩
theorem inv_fac {d : Nat} {vs : List V} (h : TV Tryd.prog d 105 vs) : ∃ x : Fac, vs = cFac x := by
  cases d with
  | zero => exact h.elim
  | succ d =>
    simp only [TV, Tryd.underlying105, TVF] at h
    obtain ⟨x1, y1, rfl, h1, x2, y2, rfl, h2, rfl⟩ := h
    obtain ⟨s, rfl⟩ := inv_str h1
    obtain ⟨n, rfl⟩ := inv_int h2
    exact ⟨⟨s, n⟩, rfl⟩
theorem inv_val {d : Nat} {vs : List V} (h : TV Tryd.prog d 23 vs) : ∃ v : Val, vs = [vint v.kind, vint v.n, vstr v.s] := by
  cases d with
  | zero => exact h.elim
  | succ d =>
    simp only [TV, Tryd.underlying23, TVF] at h
    obtain ⟨x1, y1, rfl, h1, x2, y2, rfl, h2, x3, y3, rfl, h3, rfl⟩ := h
    obtain ⟨k, rfl⟩ := inv_int h1
    obtain ⟨n, rfl⟩ := inv_int h2
    obtain ⟨s, rfl⟩ := inv_str h3
    exact ⟨⟨k, n, s⟩, rfl⟩
theorem inv_win {d : Nat} {vs : List V} (h : TV Tryd.prog d 26 vs) : ∃ a b : Int, vs = [vint a, vint b] := by
  cases d with
  | zero => exact h.elim
  | succ d =>
    simp only [TV, Tryd.underlying26, TVF] at h
    obtain ⟨x1, y1, rfl, h1, x2, y2, rfl, h2, rfl⟩ := h
    obtain ⟨k, rfl⟩ := inv_int h1
    obtain ⟨n, rfl⟩ := inv_int h2
    exact ⟨k, n, rfl⟩
theorem one_slice {d : Nat} {t e : TypeId} {vs : List V} (hu : Tryd.prog.underlying t = some (.slice e)) (h : TV Tryd.prog d t vs) : ∃ v d', vs = [v] ∧ d = d' + 1 := by
  cases d with
  | zero => exact h.elim
  | succ d =>
    simp only [TV, hu] at h
    rcases h with h | ⟨es, h, _⟩
    · exact ⟨_, _, h, rfl⟩
    · exact ⟨_, _, h, rfl⟩
theorem inv_expr : ∀ (d : Nat) (vs : List V), V.bulks vs ≤ big → TV Tryd.prog d 29 vs → ∃ x : E, LeL vs (cE x) ∧ Fit x ∧ depthE x ≤ V.bulks vs := by
  intro d
  induction d using Nat.strongRecOn with
  | ind d ih =>
  intro vs hb h
  cases d with
  | zero => exact h.elim
  | succ d =>
    simp only [TV, Tryd.underlying29, TVF] at h
    obtain ⟨x1, y1, rfl, h1, x2, y2, rfl, h2, x3, y3, rfl, h3, x4, y4, rfl, h4, x5, y5, rfl, h5, x6, y6, rfl, h6, x7, y7, rfl, h7, x8, y8, rfl, h8, x9, y9, rfl, h9, rfl⟩ := h
    obtain ⟨kind, rfl⟩ := inv_int h1
    obtain ⟨op, rfl⟩ := inv_str h2
    obtain ⟨name, rfl⟩ := inv_str h3
    obtain ⟨table, rfl⟩ := inv_str h4
    obtain ⟨val, rfl⟩ := inv_val h5
    obtain ⟨u, d', rfl, rfl⟩ := one_slice Ty.un24 h6
    obtain ⟨param, rfl⟩ := inv_int h7
    obtain ⟨wk, ws, rfl⟩ := inv_win h8
    obtain ⟨a, _, rfl, _⟩ := one_slice Ty.un27 h9
    simp only [List.cons_append, List.nil_append, V.bulks] at hb
    obtain ⟨us, u1, u2, u3⟩ := inv_list (m := big) Ty.un24 (by kernel_rfl : Tryd.prog.cellsOf 105 = 2) cFac (fun _ => True) (fun _ => 0) (fun vs _ h => by obtain ⟨x, rfl⟩ := inv_fac h; exact ⟨x, LeL.refl _, trivial, Nat.zero_le _⟩) (fun _ => Nat.succ_pos _) h6 (by omega)
    obtain ⟨la, a1, a2, a3⟩ := inv_list (m := big) Ty.un27 (by kernel_rfl : Tryd.prog.cellsOf 29 = 12) cE (fun x => Fit x) depthE (fun vs hm h => ih d' (by omega) vs hm h) (fun x => by rw [cE_len]; decide) h9 (by omega)
    refine ⟨.mk ⟨kind, op, name, table, val, us, param, wk, ws⟩ la, ?_, ?_, ?_⟩
    · rw [cE_mk]
      exact .cons (Le.refl _) (.cons (Le.refl _) (.cons (Le.refl _) (.cons (Le.refl _) (.cons (Le.refl _) (.cons (Le.refl _) (.cons (Le.refl _) (.cons u1 (.cons (Le.refl _) (.cons (Le.refl _) (.cons (Le.refl _) (.cons a1 .nil)))))))))))
    · exact .mk _ _ (by simp only; omega) (by omega) fun x hx => (a3 x hx).1
    · rw [depthE_mk]
      simp only [List.cons_append, List.nil_append, V.bulks]
      have : depthEs la + 1 ≤ V.bulk a := by
        have h0 := a2
        clear a1 a2
        induction la with
        | nil => simp only [depthEs, List.length_nil] at h0 ⊢; omega
        | cons x r ihr =>
          have hx := (a3 x List.mem_cons_self).2
          have hr := ihr (fun y hy => a3 y (List.mem_cons_of_mem _ hy)) (by simp only [List.length_cons] at h0; omega)
          simp only [depthEs]
          omega
      omega
theorem in_expr {d : Nat} {a : V} (h : TA Tryd.prog d 29 a) (hb : V.bulkA a ≤ 1048576) : ∃ x : E, Le a (vE x) ∧ Fit x ∧ depthE x ≤ 1048576 := by
  unfold TA at h
  simp only [Ty.ag29] at h
  obtain ⟨vs, rfl, h⟩ := h
  have hb' : V.bulks vs ≤ 1048576 := hb
  obtain ⟨x, h1, h2, h3⟩ := inv_expr d vs (by unfold big; omega) h
  exact ⟨x, leAgg h1, h2, by omega⟩
theorem bulkAs_mem : ∀ {zs : List V} {a : V}, a ∈ zs → V.bulkA a ≤ V.bulkAs zs
  | b :: r, a, h => by
    rcases List.mem_cons.1 h with rfl | h
    · simp only [V.bulkAs]; omega
    · have := bulkAs_mem h; simp only [V.bulkAs]; omega

/-! ### The bulk that the rows speak of -/
mutual
theorem bulk_eq {H : Type} : ∀ d : DataW H, Rows.uptoBulk d = bulkD d
  | .lit (.string b) => by simp only [Rows.uptoBulk, bulkD]
  | .lit (.int _ _) => by simp only [Rows.uptoBulk, bulkD]
  | .lit (.bool _) => by simp only [Rows.uptoBulk, bulkD]
  | .lit (.float _ _) => by simp only [Rows.uptoBulk, bulkD]
  | .lit .nil => by simp only [Rows.uptoBulk, bulkD]
  | .nil => by simp only [Rows.uptoBulk, bulkD]
  | .ptr d => by simp only [Rows.uptoBulk, bulkD, bulk_eq d]
  | .slice es sp => by simp only [Rows.uptoBulk, bulkD, bulks_eq es, bulks_eq sp]
  | .agg ps => by simp only [Rows.uptoBulk, bulkD, bulks_eq ps]
  | .iface _ d => by simp only [Rows.uptoBulk, bulkD, bulk_eq d]
  | .map es => by simp only [Rows.uptoBulk, bulkD, bulke_eq es]
  | .held _ => by simp only [Rows.uptoBulk, bulkD]
theorem bulks_eq {H : Type} : ∀ ds : List (DataW H), Rows.uptoBulkAll ds = bulkDs ds
  | [] => by simp only [Rows.uptoBulkAll, bulkDs]
  | d :: r => by simp only [Rows.uptoBulkAll, bulkDs, bulk_eq d, bulks_eq r]
theorem bulke_eq {H : Type} : ∀ es : List (Lit × DataW H), Rows.uptoBulkEntries es = bulkDe es
  | [] => by simp only [Rows.uptoBulkEntries, bulkDe]
  | x :: r => by simp only [Rows.uptoBulkEntries, bulkDe, bulkx_eq x, bulke_eq r]
theorem bulkx_eq {H : Type} : ∀ x : Lit × DataW H, Rows.uptoBulkEntry x = bulkDx x
  | (.string b, d) => by simp only [Rows.uptoBulkEntry, bulkDx, bulk_eq d]
  | (.int _ _, d) => by simp only [Rows.uptoBulkEntry, bulkDx, bulk_eq d]
  | (.bool _, d) => by simp only [Rows.uptoBulkEntry, bulkDx, bulk_eq d]
  | (.float _ _, d) => by simp only [Rows.uptoBulkEntry, bulkDx, bulk_eq d]
  | (.nil, d) => by simp only [Rows.uptoBulkEntry, bulkDx, bulk_eq d]
end
end Go.Proofs.YtphkmlogjgeipaaDoor

/- Lowering: what the finals share. -/
set_option linter.unusedSimpArgs false
namespace Go.Proofs.YtphkmlogjgeipaaDoor
open Go.VL Go.Ar Go.Lo Go.ChangeShapes Go.WideShapes Go.ChangeAt Go.RowKit

theorem own : ownKnob Tryd.prog.godebug = none := by kernel_rfl
theorem laidOut : laidOutB Tryd.prog = true := by kernel_rfl
abbrev tysE : List TypeId := [29, 3, 9, 23, 24, 105, 26, 27, 33, 31, 43, 41]
theorem goodE : goodS Tryd.prog tysE = true := by kernel_rfl

abbrev wE : Value := .agg #[.int .i64 0, .string ⟨#[]⟩, .string ⟨#[]⟩, .string ⟨#[]⟩, .int .i64 0, .int .i64 0, .string ⟨#[]⟩, .slice none 0 0, .int .i64 0, .int .i64 0, .int .i64 0, .slice none 0 0]
abbrev dE {H : Type} : DataW H := .agg [.lit (.int .i64 0), .lit (.string []), .lit (.string []), .lit (.string []), .agg [.lit (.int .i64 0), .lit (.int .i64 0), .lit (.string [])], .nil, .lit (.int .i64 0), .agg [.lit (.int .i64 0), .lit (.int .i64 0)], .nil]
abbrev wG : Value := .agg #[.slice none 0 0]
abbrev dG {H : Type} : DataW H := .agg [.nil]
noncomputable def laidWorld (os : Os) : World := World.laidAll Tryd.prog os Rows.lowerSharesUptoRow.laid
theorem laid_met (os : Os) (args : Array Value) : laidMet Tryd.prog Rows.lowerSharesUptoRow.laid ((laidWorld os).forCall (fun _ _ => 0) ⟨#[], args, []⟩).memory :=
  laidMet_laidAll args (by kernel_rfl) (by kernel_rfl)
end Go.Proofs.YtphkmlogjgeipaaDoor

/- LowerBegins: the walk of the law. -/
set_option linter.unusedSimpArgs false
set_option maxRecDepth 100000
namespace Go.Lo
open Go.VL Go.Ar
abbrev sEq : Str := ⟨#[61, 61]⟩
end Go.Lo
namespace Go.Proofs.YtphkmlogjgeipaaDoor
open Go.VL Go.Ar Go.Lo Go.Proofs.YtphkmlogjgeipaaDoor
theorem bin_shape {op : Str} {x y : E} (h : shapeC (binE op x y) = 0) : shapeC x = 0 := by
  obtain ⟨p1, p2, p3⟩ := shape_parts h
  obtain ⟨_, _, _, h4, _⟩ := proper_parts p3
  have hp : properE x false = true := by simpa using h4 x List.mem_cons_self
  have hs := sizeEs_mem (x := x) (l := [x, y]) List.mem_cons_self
  have hd := depthEs_mem (x := x) (l := [x, y]) List.mem_cons_self
  rw [sizeE_mk] at p1
  rw [depthE_mk] at p2
  unfold shapeC
  rw [wrap_id (by omega) (by omega), if_neg (by omega), if_neg (by omega), if_pos hp]
/-- The graph of an operation begins with that of its first operand. -/
theorem bin_graph {op : Str} {x y : E} (h : shapeC (binE op x y) = 0) : ∃ M : List Nd, ∃ k : Nat, graphC (binE op x y) = graphC x ++ M ++ [{ nd0 8 with op := op, inn := [((graphC x).length : Int) - 1, (k : Int)] }] := by
  obtain ⟨p1, p2, p3⟩ := shape_parts h
  have hx := bin_shape h
  obtain ⟨_, _, _, h4, _⟩ := proper_parts p3
  have ha : ∀ z ∈ [x, y], Agg2 z := fun z hz => proper_agg2 z _ (h4 z hz)
  rw [graphC, if_pos h, graphC, if_pos hx]
  rw [op_last _ _ (show ¬ (7 : Int) = 5 by decide) ha]
  have hr := root_last x (ha x List.mem_cons_self)
  have hlx := low_ok x (ha x List.mem_cons_self) [] (fun i hi => by cases hi) List.nodup_nil
  have hly := low_ok y (ha y (by simp)) (lowE [] x).1 hlx.wf hlx.nd
  obtain ⟨M, hM⟩ := hly.pre
  refine ⟨M, (lowE (lowE [] x).1 y).2, ?_⟩
  simp only [lowEs]
  rw [hM]
  congr 3
  congr 1
  omega
set_option linter.defProp false in
def tbL50 := (And.intro (And.intro (And.intro (And.intro (And.intro (And.intro Ty.sz3 (And.intro Ty.by3 Ty.ag3)) (And.intro (And.intro Ty.zr3 Ty.un3) (And.intro Ty.sz4 Ty.by4))) (And.intro (And.intro (And.intro Ty.ag4 Ty.zr4) (And.intro Ty.un4 Ty.sz9)) (And.intro (And.intro Ty.by9 Ty.ag9) (And.intro Ty.zr9 Ty.un9)))) (And.intro (And.intro (And.intro (And.intro Ty.sz23 Ty.by23) (And.intro Ty.ag23 Ty.zr23)) (And.intro (And.intro Ty.fl23_0 Ty.pl23_0) (And.intro Ty.fl23_1 Ty.pl23_1))) (And.intro (And.intro (And.intro Ty.fl23_2 Ty.pl23_2) (And.intro Ty.sz24 Ty.by24)) (And.intro (And.intro Ty.ag24 Ty.zr24) (And.intro Ty.un24 Ty.sz26))))) (And.intro (And.intro (And.intro (And.intro (And.intro Ty.by26 Ty.ag26) (And.intro Ty.zr26 Ty.fl26_0)) (And.intro (And.intro Ty.pl26_0 Ty.fl26_1) (And.intro Ty.pl26_1 Ty.sz27))) (And.intro (And.intro (And.intro Ty.by27 Ty.ag27) (And.intro Ty.zr27 Ty.un27)) (And.intro (And.intro Ty.sz29 Ty.by29) (And.intro Ty.ag29 Ty.zr29)))) (And.intro (And.intro (And.intro (And.intro Ty.fl29_0 Ty.pl29_0) (And.intro Ty.fl29_1 Ty.pl29_1)) (And.intro (And.intro Ty.fl29_2 Ty.pl29_2) (And.intro Ty.fl29_3 Ty.pl29_3))) (And.intro (And.intro (And.intro Ty.fl29_4 Ty.pl29_4) (And.intro Ty.fl29_5 Ty.pl29_5)) (And.intro (And.intro Ty.fl29_6 Ty.pl29_6) (And.intro Ty.fl29_7 Ty.pl29_7)))))) (And.intro (And.intro (And.intro (And.intro (And.intro Ty.fl29_8 (And.intro Ty.pl29_8 Ty.sz31)) (And.intro (And.intro Ty.by31 Ty.ag31) (And.intro Ty.zr31 Ty.un31))) (And.intro (And.intro (And.intro Ty.sz33 Ty.by33) (And.intro Ty.ag33 Ty.zr33)) (And.intro (And.intro Ty.fl33_0 Ty.pl33_0) (And.intro Ty.sz34 Ty.by34)))) (And.intro (And.intro (And.intro (And.intro Ty.ag34 Ty.zr34) (And.intro Ty.un34 Ty.sz35)) (And.intro (And.intro Ty.by35 Ty.ag35) (And.intro Ty.sz41 Ty.by41))) (And.intro (And.intro (And.intro Ty.ag41 Ty.zr41) (And.intro Ty.un41 Ty.sz43)) (And.intro (And.intro Ty.by43 Ty.ag43) (And.intro Ty.zr43 Ty.fl43_0))))) (And.intro (And.intro (And.intro (And.intro (And.intro Ty.pl43_0 Ty.fl43_1) (And.intro Ty.pl43_1 Ty.fl43_2)) (And.intro (And.intro Ty.pl43_2 Ty.fl43_3) (And.intro Ty.pl43_3 Ty.fl43_4))) (And.intro (And.intro (And.intro Ty.pl43_4 Ty.fl43_5) (And.intro Ty.pl43_5 Ty.fl43_6)) (And.intro (And.intro Ty.pl43_6 Ty.fl43_7) (And.intro Ty.pl43_7 Ty.fl43_8)))) (And.intro (And.intro (And.intro (And.intro Ty.pl43_8 Ty.sz105) (And.intro Ty.by105 Ty.ag105)) (And.intro (And.intro Ty.zr105 Ty.fl105_0) (And.intro Ty.pl105_0 Ty.fl105_1))) (And.intro (And.intro (And.intro Ty.pl105_1 Ty.eq23) (And.intro Ty.eq26 Ty.eq105)) (And.intro (And.intro Ty.cb6 Ty.cb7) (And.intro Ty.cb10 Ty.cb11)))))))
theorem begins_ok (x y : E) (hfx : Fit x) (hfy : Fit y) (hbx : depthE x + 1 ≤ big) (hby : depthE y + 1 ≤ big) : OkP Tryd.prog 4 [vE x, vE y] (vbool true) := by
  have hgx := graph_ok x hfx (by omega)
  have hbin := binary_ok sEq x y
  have hdb : depthE (binE sEq x y) ≤ big := by
    rw [depthE_mk]; simp only [depthEs]; omega
  have hgb := graph_ok (binE sEq x y) (fitB _ (by decide) hfx hfy) hdb
  have he := example_ok
  generalize hB : vE (binE sEq x y) = B1 at hbin hgb
  simp only [vE, cE_eq x, cE_eq y] at hgx hbin ⊢
  refine Ok.of_ex Ty.mixed Tryd.func4 rfl (by simp [Tryd.ntmps4]) (by kernel_rfl) fun F w0 I0 => ?_
  simp only [↓rA, rB, Int.reduceEq, Int.reduceLE, Int.reduceLT, Int.reduceToNat, Nat.reduceAdd, Nat.reduceEqDiff, Nat.reduceLT, Nat.reduceLeDiff, Nat.reduceMul, Nat.reduceSub, reduceCtorEq, tbL50, Tryd.results4]
  refine fun b2 n2 => ?_; replace n2 := newb n2; try simp only [Nb] at n2
  simp only [↓rA, rB, Int.reduceEq, Int.reduceLE, Int.reduceLT, Int.reduceToNat, Nat.reduceAdd, Nat.reduceEqDiff, Nat.reduceLT, Nat.reduceLeDiff, Nat.reduceMul, Nat.reduceSub, reduceCtorEq, tbL50, Tryd.results4, n2]
  refine fun b3 n3 => ?_; replace n3 := newb n3; try simp only [Nb] at n3
  simp only [↓rA, rB, Int.reduceEq, Int.reduceLE, Int.reduceLT, Int.reduceToNat, Nat.reduceAdd, Nat.reduceEqDiff, Nat.reduceLT, Nat.reduceLeDiff, Nat.reduceMul, Nat.reduceSub, reduceCtorEq, tbL50, Tryd.results4, n2, n3]
  refine OkF_of _ he ?_
  simp only [↓rA, rB, Int.reduceEq, Int.reduceLE, Int.reduceLT, Int.reduceToNat, Nat.reduceAdd, Nat.reduceEqDiff, Nat.reduceLT, Nat.reduceLeDiff, Nat.reduceMul, Nat.reduceSub, reduceCtorEq, tbL50, Tryd.results4, n2, n3]
  refine OkF_of _ hgx ?_
  simp only [↓rA, rB, Int.reduceEq, Int.reduceLE, Int.reduceLT, Int.reduceToNat, Nat.reduceAdd, Nat.reduceEqDiff, Nat.reduceLT, Nat.reduceLeDiff, Nat.reduceMul, Nat.reduceSub, reduceCtorEq, tbL50, Tryd.results4, n2, n3]
  refine fun b6 n6 => ?_; replace n6 := newb n6; try simp only [Nb] at n6
  simp only [↓rA, rB, Int.reduceEq, Int.reduceLE, Int.reduceLT, Int.reduceToNat, Nat.reduceAdd, Nat.reduceEqDiff, Nat.reduceLT, Nat.reduceLeDiff, Nat.reduceMul, Nat.reduceSub, reduceCtorEq, tbL50, Tryd.results4, n2, n3, n6]
  refine OkF_of _ hbin ?_
  simp only [↓rA, rB, Int.reduceEq, Int.reduceLE, Int.reduceLT, Int.reduceToNat, Nat.reduceAdd, Nat.reduceEqDiff, Nat.reduceLT, Nat.reduceLeDiff, Nat.reduceMul, Nat.reduceSub, reduceCtorEq, tbL50, Tryd.results4, n2, n3, n6]
  refine OkF_of _ hgb ?_
  simp only [↓rA, rB, Int.reduceEq, Int.reduceLE, Int.reduceLT, Int.reduceToNat, Nat.reduceAdd, Nat.reduceEqDiff, Nat.reduceLT, Nat.reduceLeDiff, Nat.reduceMul, Nat.reduceSub, reduceCtorEq, tbL50, Tryd.results4, n2, n3, n6]
  refine fun b8 n8 => ?_; replace n8 := newb n8; try simp only [Nb] at n8
  by_cases ex : shapeC x = 0
  case neg =>
    have ey : ¬ shapeC (binE sEq x y) = 0 := fun h => ex (bin_shape h)
    simp only [↓rA, rB, Int.reduceEq, Int.reduceLE, Int.reduceLT, Int.reduceToNat, Nat.reduceAdd, Nat.reduceEqDiff, Nat.reduceLT, Nat.reduceLeDiff, Nat.reduceMul, Nat.reduceSub, reduceCtorEq, tbL50, Tryd.results4, n2, n3, n6, n8, ex, ey]
    exact ret_done rfl
  by_cases ey : shapeC (binE sEq x y) = 0
  case neg =>
    simp only [↓rA, rB, Int.reduceEq, Int.reduceLE, Int.reduceLT, Int.reduceToNat, Nat.reduceAdd, Nat.reduceEqDiff, Nat.reduceLT, Nat.reduceLeDiff, Nat.reduceMul, Nat.reduceSub, reduceCtorEq, tbL50, Tryd.results4, n2, n3, n6, n8, ex, ey]
    exact ret_done rfl
  obtain ⟨M, k, hgr⟩ := bin_graph ey
  have hG := graph_gr x hfx ex
  have hG2 := graph_gr (binE sEq x y) (fitB _ (by decide) hfx hfy) ey
  rw [ex, ey]
  have hH1 : (graphC x).length < (graphC (binE sEq x y)).length := by rw [hgr]; simp only [List.length_append, List.length_cons, List.length_nil]; omega
  have hH2 : (graphC (binE sEq x y)).take (graphC x).length = graphC x := by rw [hgr, List.append_assoc, List.take_left']; rfl
  have hH3 : ∀ h : (graphC (binE sEq x y)).length - 1 < (graphC (binE sEq x y)).length, (graphC (binE sEq x y))[(graphC (binE sEq x y)).length - 1] = { nd0 8 with op := sEq, inn := [((graphC x).length : Int) - 1, (k : Int)] } := fun h => by
    have : ∀ (l : List Nd) (n : Nd) (h : (l ++ [n]).length - 1 < (l ++ [n]).length), (l ++ [n])[(l ++ [n]).length - 1] = n := fun l n h => by simp
    simp only [hgr]
    exact this _ _ _
  generalize graphC (binE sEq x y) = H at hG2 hH1 hH2 hH3 ⊢
  clear hgr
  generalize graphC x = L at hG hH1 hH2 hH3 ⊢
  have h8 := hG2.sm
  have hpos := hG.pos
  have hl1 : ¬ (H.length : Int) ≤ (L.length : Int) := by omega
  have hl2 : (L.length : Int) ≤ (H.length : Int) := by omega
  have hH4 := hH3 (by omega)
  have hw1 : IntKind.i64.wrap ((H.length : Int) - 1) = ((H.length - 1 : Nat) : Int) := by rw [wrap_id (by omega) (by omega)]; omega
  have hw2 : IntKind.i64.wrap ((L.length : Int) - 1) = (L.length : Int) - 1 := wrap_id (by omega) (by omega)
  have hlt : H.length - 1 < H.length := by omega
  have hsame := sameG_ok L L (by unfold big; have := hG.sm; omega) hG.fit
  rw [decide_eq_true rfl] at hsame
  have htk : (H.map cNd).take L.length = L.map cNd := by rw [← List.map_take, hH2]
  simp only [↓rA, rB, Int.reduceEq, Int.reduceLE, Int.reduceLT, Int.reduceToNat, Nat.reduceAdd, Nat.reduceEqDiff, Nat.reduceLT, Nat.reduceLeDiff, Nat.reduceMul, Nat.reduceSub, reduceCtorEq, tbL50, Tryd.results4, n2, n3, n6, n8, hl1, hl2, List.length_map, htk]
  refine ⟨by omega, CallV_of _ hsame.v ?_⟩
  have hlt' : ((H.length - 1 : Nat) : Int) < (H.length : Int) := by omega
  simp only [↓rA, rB, Int.reduceEq, Int.reduceLE, Int.reduceLT, Int.reduceToNat, Nat.reduceAdd, Nat.reduceEqDiff, Nat.reduceLT, Nat.reduceLeDiff, Nat.reduceMul, Nat.reduceSub, reduceCtorEq, tbL50, Tryd.results4, n2, n3, n6, n8, hl1, hl2, List.length_map, hw1, hlt', getD_map _ _ _ hlt, hH4, cNd_eq]
  refine fun b11 n11 => ?_; replace n11 := newb n11; try simp only [Nb] at n11
  simp only [↓rA, rB, Int.reduceEq, Int.reduceLE, Int.reduceLT, Int.reduceToNat, Nat.reduceAdd, Nat.reduceEqDiff, Nat.reduceLT, Nat.reduceLeDiff, Nat.reduceMul, Nat.reduceSub, reduceCtorEq, tbL50, Tryd.results4, n2, n3, n6, n8, n11, hw2, Int.cast_ofNat_Int]
  exact ret_done rfl
end Go.Proofs.YtphkmlogjgeipaaDoor

