/- Merged out of my texts LI LN LJ LK LP LT LQ LU LW. -/
import Derived.Test.YtphkmlogjgeipaaDoorKa
import Derived.Test.YtphkmlogjgeipaaDoorVH
import Derived.Test.YtphkmlogjgeipaaDoorVPm
import Derived.Test.YtphkmlogjgeipaaDoorVN
import Derived.Shelf.SortG.Plain
import Derived.KernelRfl
import Derived.Test.YtphkmlogjgeipaaDoorProg
import Derived.Test.YtphkmlogjgeipaaDoorVFn
import Derived.Shelf.SortG.SortNone
set_option linter.unusedVariables false
/- Contracts of lowering, part h: the shared list takes a node in. Printed by mkLI.py. -/
set_option linter.unusedSimpArgs false
set_option maxRecDepth 100000
namespace Go.Proofs.YtphkmlogjgeipaaDoor
open Go.VL Go.Ar Go.Lo Go.Proofs.YtphkmlogjgeipaaDoor

/-- How the shared list lies in memory. -/
def Sh (s : Nat) (L : List Nd) (bs : List (Nat × B)) : Prop :=
  (L = [] ∧ bs = [(s, .c [nilS, fnN])]) ∨ ∃ g c rest, L ≠ [] ∧ (s ≠ g ∧ g ≠ s) ∧ L.length ≤ c ∧ rest.length = (c - L.length) * 23 ∧ bs = [(g, bN L rest), (s, .c [slN g L.length c, fnN])]
abbrev pt' (b o : Nat) : V := .lit (.pointer (some ⟨b, o, none⟩))
abbrev cX (x : Nd) : List V := cN x x.expr.hd (vEs x.expr.args) (vints x.inn)
abbrev base (b2 b3 s : Nat) (x : Nd) (u : V) : List (Nat × B) := [(b3, .c (cX x)), (b2, .c [ptr s]), (s, .c [u, fnN])]
/-- The region that appends: what its operations have done; M cells' rows ahead, in 'pre'. -/
def InP (b2 b3 s : Nat) (x : Nd) (sl : V) (G : List (Nat × B)) (M : Nat) (pre : List V) (L : Nat → Bool) (S : St) : Prop :=
  S.σ 2 = ptr b2 ∧ S.σ 3 = ptr b3 ∧ (L 0 = true → S.σ 15 = ptr s) ∧ (L 1 = true → S.σ 16 = ptr s) ∧ (L 2 = true → S.σ 17 = ptr s) ∧ (L 3 = true → S.σ 18 = pt' s 0) ∧ (L 4 = true → S.σ 19 = sl) ∧ (L 5 = true → S.σ 20 = .agg (cX x)) ∧
  (L 8 = true → S.σ 23 = ptr s) ∧ (L 9 = true → S.σ 24 = pt' s 0) ∧ (L 7 = true → L 4 = true ∧ L 6 = true) ∧ (L 10 = true → L 7 = true) ∧
  ((L 6 = false ∧ S.rows = []) ∨ ∃ y, L 6 = true ∧ S.rows = [⟨y, 23, 43⟩] ∧ S.σ 21 = .list (some y) 23 [cX x]) ∧
  ((L 7 = false ∧ S.boxes = base b2 b3 s x sl ++ G) ∨ ∃ g c, L 7 = true ∧ Nb g (base b2 b3 s x sl) ∧ M + 1 ≤ c ∧ S.σ 22 = slN g (M + 1) c ∧ S.boxes = (g, .c (pre ++ (cX x ++ anys ((c - (M + 1)) * 23)))) :: base b2 b3 s x (bif L 10 then slN g (M + 1) c else sl))

set_option linter.defProp false in
def tbLI0 := (And.intro (And.intro (And.intro (And.intro (And.intro (And.intro (And.intro Ty.sz3 Ty.by3) (And.intro Ty.ag3 Ty.zr3)) (And.intro (And.intro Ty.un3 Ty.sz4) (And.intro Ty.by4 Ty.ag4))) (And.intro (And.intro (And.intro Ty.zr4 Ty.un4) (And.intro Ty.sz9 Ty.by9)) (And.intro (And.intro Ty.ag9 Ty.zr9) (And.intro Ty.un9 Ty.sz23)))) (And.intro (And.intro (And.intro (And.intro Ty.by23 Ty.ag23) (And.intro Ty.zr23 Ty.fl23_0)) (And.intro (And.intro Ty.pl23_0 Ty.fl23_1) (And.intro Ty.pl23_1 Ty.fl23_2))) (And.intro (And.intro (And.intro Ty.pl23_2 Ty.sz24) (And.intro Ty.by24 Ty.ag24)) (And.intro (And.intro Ty.zr24 Ty.un24) (And.intro Ty.sz26 Ty.by26))))) (And.intro (And.intro (And.intro (And.intro (And.intro Ty.ag26 Ty.zr26) (And.intro Ty.fl26_0 Ty.pl26_0)) (And.intro (And.intro Ty.fl26_1 Ty.pl26_1) (And.intro Ty.sz27 Ty.by27))) (And.intro (And.intro (And.intro Ty.ag27 Ty.zr27) (And.intro Ty.un27 Ty.sz29)) (And.intro (And.intro Ty.by29 Ty.ag29) (And.intro Ty.zr29 Ty.fl29_0)))) (And.intro (And.intro (And.intro (And.intro Ty.pl29_0 Ty.fl29_1) (And.intro Ty.pl29_1 Ty.fl29_2)) (And.intro (And.intro Ty.pl29_2 Ty.fl29_3) (And.intro Ty.pl29_3 Ty.fl29_4))) (And.intro (And.intro (And.intro Ty.pl29_4 Ty.fl29_5) (And.intro Ty.pl29_5 Ty.fl29_6)) (And.intro (And.intro Ty.pl29_6 Ty.fl29_7) (And.intro Ty.pl29_7 (And.intro Ty.fl29_8 Ty.pl29_8))))))) (And.intro (And.intro (And.intro (And.intro (And.intro (And.intro Ty.sz31 Ty.by31) (And.intro Ty.ag31 Ty.zr31)) (And.intro (And.intro Ty.un31 Ty.sz40) (And.intro Ty.by40 Ty.ag40))) (And.intro (And.intro (And.intro Ty.zr40 Ty.sz41) (And.intro Ty.by41 Ty.ag41)) (And.intro (And.intro Ty.zr41 Ty.un41) (And.intro Ty.sz43 Ty.by43)))) (And.intro (And.intro (And.intro (And.intro Ty.ag43 Ty.zr43) (And.intro Ty.fl43_0 Ty.pl43_0)) (And.intro (And.intro Ty.fl43_1 Ty.pl43_1) (And.intro Ty.fl43_2 Ty.pl43_2))) (And.intro (And.intro (And.intro Ty.fl43_3 Ty.pl43_3) (And.intro Ty.fl43_4 Ty.pl43_4)) (And.intro (And.intro Ty.fl43_5 Ty.pl43_5) (And.intro Ty.fl43_6 (And.intro Ty.pl43_6 Ty.fl43_7)))))) (And.intro (And.intro (And.intro (And.intro (And.intro Ty.pl43_7 Ty.fl43_8) (And.intro Ty.pl43_8 Ty.sz71)) (And.intro (And.intro Ty.by71 Ty.ag71) (And.intro Ty.zr71 Ty.un71))) (And.intro (And.intro (And.intro Ty.sz73 Ty.by73) (And.intro Ty.ag73 Ty.zr73)) (And.intro (And.intro Ty.fl73_0 Ty.pl73_0) (And.intro Ty.fl73_1 Ty.pl73_1)))) (And.intro (And.intro (And.intro (And.intro Ty.sz91 Ty.by91) (And.intro Ty.ag91 Ty.zr91)) (And.intro (And.intro Ty.sz105 Ty.by105) (And.intro Ty.ag105 Ty.zr105))) (And.intro (And.intro (And.intro Ty.fl105_0 Ty.pl105_0) (And.intro Ty.fl105_1 Ty.pl105_1)) (And.intro (And.intro Ty.eq23 Ty.eq26) (And.intro Ty.eq105 (And.intro Ty.cb40 Ty.cb41))))))))
set_option maxHeartbeats 4000000 in
theorem put_nil (x : Nd) (s : Nat) : Ok Tryd.prog 23 [ptr s, .agg (cNd x)] [(s, .c [nilS, fnN])] fun v bs rs => v = vint 0 ∧ Sh s [x] bs ∧ rs = [] := by
  have hq := indexNd_nil x s
  simp only [cNd_eq] at hq ⊢
  refine Ok.of_exM [(4, 3)] Ty.mixed Tryd.func23 rfl (by simp [Tryd.ntmps23]) (by kernel_rfl) fun F w0 I0 => ?_
  simp only [↓rA, rB, Int.reduceEq, Int.reduceLE, Int.reduceLT, Int.reduceToNat, Nat.reduceAdd, Nat.reduceEqDiff, Nat.reduceLT, Nat.reduceLeDiff, Nat.reduceMul, Nat.reduceSub, reduceCtorEq, tbLI0, Tryd.results23]
  refine fun b2 h2 => ?_; replace h2 := newb h2; try simp only [Nb] at h2
  simp only [↓rA, rB, Int.reduceEq, Int.reduceLE, Int.reduceLT, Int.reduceToNat, Nat.reduceAdd, Nat.reduceEqDiff, Nat.reduceLT, Nat.reduceLeDiff, Nat.reduceMul, Nat.reduceSub, reduceCtorEq, tbLI0, Tryd.results23, h2]
  refine fun b3 h3 => ?_; replace h3 := newb h3; try simp only [Nb] at h3
  simp only [↓rA, rB, Int.reduceEq, Int.reduceLE, Int.reduceLT, Int.reduceToNat, Nat.reduceAdd, Nat.reduceEqDiff, Nat.reduceLT, Nat.reduceLeDiff, Nat.reduceMul, Nat.reduceSub, reduceCtorEq, tbLI0, Tryd.results23, h2, h3]
  refine OkF_with [_, _, _] [] (List.Perm.refl _) (hq b2 b3) ?_
  rintro v bs rs ⟨rfl, rfl, rfl⟩
  simp only [↓rA, rB, Int.reduceEq, Int.reduceLE, Int.reduceLT, Int.reduceToNat, Nat.reduceAdd, Nat.reduceEqDiff, Nat.reduceLT, Nat.reduceLeDiff, Nat.reduceMul, Nat.reduceSub, reduceCtorEq, tbLI0, Tryd.results23, h2, h3]
  have hs := And.intro h2 h3
  refine EX_invA Ty.mixed (by kernel_rfl) (by kernel_rfl) (InP b2 b3 s x nilS [] 0 []) ?_ ?_ ?_
  · exact ⟨rfl, rfl, (fun h => by cases h), (fun h => by cases h), (fun h => by cases h), (fun h => by cases h), (fun h => by cases h), (fun h => by cases h), (fun h => by cases h), (fun h => by cases h), (fun h => by cases h), (fun h => by cases h), .inl ⟨rfl, rfl⟩, .inl ⟨rfl, rfl⟩⟩
  · intro L S i o ho hL he ⟨g2, g3, f0, f1, f2, f3, f4, f5, f8, f9, d7, d10, hr, hb⟩
    match i, ho with
    | 0, ho =>
      cases ho
      have hb0 := hb
      have hr0 := hr
      rcases hb0 with ⟨h7, gb⟩ | ⟨g, c, h7, n, hc, g22, gb⟩ <;> rcases hr0 with ⟨h6, gr⟩ | ⟨y, h6, gr, g21⟩
      · simp only [↓rA, rB, Int.reduceEq, Int.reduceLE, Int.reduceLT, Int.reduceToNat, Nat.reduceAdd, Nat.reduceEqDiff, Nat.reduceLT, Nat.reduceLeDiff, Nat.reduceMul, Nat.reduceSub, reduceCtorEq, tbLI0, Tryd.results23, g2, g3, gb, gr, hs]
        exact ⟨g2, g3, fun _ => rfl, f1, f2, f3, f4, f5, f8, f9, d7, d10, hr, hb⟩
      · simp only [↓rA, rB, Int.reduceEq, Int.reduceLE, Int.reduceLT, Int.reduceToNat, Nat.reduceAdd, Nat.reduceEqDiff, Nat.reduceLT, Nat.reduceLeDiff, Nat.reduceMul, Nat.reduceSub, reduceCtorEq, tbLI0, Tryd.results23, g2, g3, gb, gr, hs]
        exact ⟨g2, g3, fun _ => rfl, f1, f2, f3, f4, f5, f8, f9, d7, d10, hr, hb⟩
      · simp only [Nb, base] at n
        simp only [↓rA, rB, Int.reduceEq, Int.reduceLE, Int.reduceLT, Int.reduceToNat, Nat.reduceAdd, Nat.reduceEqDiff, Nat.reduceLT, Nat.reduceLeDiff, Nat.reduceMul, Nat.reduceSub, reduceCtorEq, tbLI0, Tryd.results23, g2, g3, gb, gr, hs, n]
        exact ⟨g2, g3, fun _ => rfl, f1, f2, f3, f4, f5, f8, f9, d7, d10, hr, hb⟩
      · simp only [Nb, base] at n
        simp only [↓rA, rB, Int.reduceEq, Int.reduceLE, Int.reduceLT, Int.reduceToNat, Nat.reduceAdd, Nat.reduceEqDiff, Nat.reduceLT, Nat.reduceLeDiff, Nat.reduceMul, Nat.reduceSub, reduceCtorEq, tbLI0, Tryd.results23, g2, g3, gb, gr, hs, n]
        exact ⟨g2, g3, fun _ => rfl, f1, f2, f3, f4, f5, f8, f9, d7, d10, hr, hb⟩
    | 1, ho =>
      cases ho
      have hb0 := hb
      have hr0 := hr
      rcases hb0 with ⟨h7, gb⟩ | ⟨g, c, h7, n, hc, g22, gb⟩ <;> rcases hr0 with ⟨h6, gr⟩ | ⟨y, h6, gr, g21⟩
      · simp only [↓rA, rB, Int.reduceEq, Int.reduceLE, Int.reduceLT, Int.reduceToNat, Nat.reduceAdd, Nat.reduceEqDiff, Nat.reduceLT, Nat.reduceLeDiff, Nat.reduceMul, Nat.reduceSub, reduceCtorEq, tbLI0, Tryd.results23, g2, g3, gb, gr, hs]
        exact ⟨g2, g3, f0, fun _ => rfl, f2, f3, f4, f5, f8, f9, d7, d10, hr, hb⟩
      · simp only [↓rA, rB, Int.reduceEq, Int.reduceLE, Int.reduceLT, Int.reduceToNat, Nat.reduceAdd, Nat.reduceEqDiff, Nat.reduceLT, Nat.reduceLeDiff, Nat.reduceMul, Nat.reduceSub, reduceCtorEq, tbLI0, Tryd.results23, g2, g3, gb, gr, hs]
        exact ⟨g2, g3, f0, fun _ => rfl, f2, f3, f4, f5, f8, f9, d7, d10, hr, hb⟩
      · simp only [Nb, base] at n
        simp only [↓rA, rB, Int.reduceEq, Int.reduceLE, Int.reduceLT, Int.reduceToNat, Nat.reduceAdd, Nat.reduceEqDiff, Nat.reduceLT, Nat.reduceLeDiff, Nat.reduceMul, Nat.reduceSub, reduceCtorEq, tbLI0, Tryd.results23, g2, g3, gb, gr, hs, n]
        exact ⟨g2, g3, f0, fun _ => rfl, f2, f3, f4, f5, f8, f9, d7, d10, hr, hb⟩
      · simp only [Nb, base] at n
        simp only [↓rA, rB, Int.reduceEq, Int.reduceLE, Int.reduceLT, Int.reduceToNat, Nat.reduceAdd, Nat.reduceEqDiff, Nat.reduceLT, Nat.reduceLeDiff, Nat.reduceMul, Nat.reduceSub, reduceCtorEq, tbLI0, Tryd.results23, g2, g3, gb, gr, hs, n]
        exact ⟨g2, g3, f0, fun _ => rfl, f2, f3, f4, f5, f8, f9, d7, d10, hr, hb⟩
    | 2, ho =>
      cases ho
      have q1 := f1 (he ⟨1, .data⟩ (by simp) rfl)
      have hb0 := hb
      have hr0 := hr
      rcases hb0 with ⟨h7, gb⟩ | ⟨g, c, h7, n, hc, g22, gb⟩ <;> rcases hr0 with ⟨h6, gr⟩ | ⟨y, h6, gr, g21⟩
      · simp only [↓rA, rB, Int.reduceEq, Int.reduceLE, Int.reduceLT, Int.reduceToNat, Nat.reduceAdd, Nat.reduceEqDiff, Nat.reduceLT, Nat.reduceLeDiff, Nat.reduceMul, Nat.reduceSub, reduceCtorEq, tbLI0, Tryd.results23, g2, g3, gb, gr, hs, q1]
        exact ⟨g2, g3, f0, f1, fun _ => rfl, f3, f4, f5, f8, f9, d7, d10, hr, hb⟩
      · simp only [↓rA, rB, Int.reduceEq, Int.reduceLE, Int.reduceLT, Int.reduceToNat, Nat.reduceAdd, Nat.reduceEqDiff, Nat.reduceLT, Nat.reduceLeDiff, Nat.reduceMul, Nat.reduceSub, reduceCtorEq, tbLI0, Tryd.results23, g2, g3, gb, gr, hs, q1]
        exact ⟨g2, g3, f0, f1, fun _ => rfl, f3, f4, f5, f8, f9, d7, d10, hr, hb⟩
      · simp only [Nb, base] at n
        simp only [↓rA, rB, Int.reduceEq, Int.reduceLE, Int.reduceLT, Int.reduceToNat, Nat.reduceAdd, Nat.reduceEqDiff, Nat.reduceLT, Nat.reduceLeDiff, Nat.reduceMul, Nat.reduceSub, reduceCtorEq, tbLI0, Tryd.results23, g2, g3, gb, gr, hs, n, q1]
        exact ⟨g2, g3, f0, f1, fun _ => rfl, f3, f4, f5, f8, f9, d7, d10, hr, hb⟩
      · simp only [Nb, base] at n
        simp only [↓rA, rB, Int.reduceEq, Int.reduceLE, Int.reduceLT, Int.reduceToNat, Nat.reduceAdd, Nat.reduceEqDiff, Nat.reduceLT, Nat.reduceLeDiff, Nat.reduceMul, Nat.reduceSub, reduceCtorEq, tbLI0, Tryd.results23, g2, g3, gb, gr, hs, n, q1]
        exact ⟨g2, g3, f0, f1, fun _ => rfl, f3, f4, f5, f8, f9, d7, d10, hr, hb⟩
    | 3, ho =>
      cases ho
      have q2 := f2 (he ⟨2, .data⟩ (by simp) rfl)
      have hb0 := hb
      have hr0 := hr
      rcases hb0 with ⟨h7, gb⟩ | ⟨g, c, h7, n, hc, g22, gb⟩ <;> rcases hr0 with ⟨h6, gr⟩ | ⟨y, h6, gr, g21⟩
      · simp only [↓rA, rB, Int.reduceEq, Int.reduceLE, Int.reduceLT, Int.reduceToNat, Nat.reduceAdd, Nat.reduceEqDiff, Nat.reduceLT, Nat.reduceLeDiff, Nat.reduceMul, Nat.reduceSub, reduceCtorEq, tbLI0, Tryd.results23, g2, g3, gb, gr, hs, q2]
        exact ⟨g2, g3, f0, f1, f2, fun _ => rfl, f4, f5, f8, f9, d7, d10, hr, hb⟩
      · simp only [↓rA, rB, Int.reduceEq, Int.reduceLE, Int.reduceLT, Int.reduceToNat, Nat.reduceAdd, Nat.reduceEqDiff, Nat.reduceLT, Nat.reduceLeDiff, Nat.reduceMul, Nat.reduceSub, reduceCtorEq, tbLI0, Tryd.results23, g2, g3, gb, gr, hs, q2]
        exact ⟨g2, g3, f0, f1, f2, fun _ => rfl, f4, f5, f8, f9, d7, d10, hr, hb⟩
      · simp only [Nb, base] at n
        simp only [↓rA, rB, Int.reduceEq, Int.reduceLE, Int.reduceLT, Int.reduceToNat, Nat.reduceAdd, Nat.reduceEqDiff, Nat.reduceLT, Nat.reduceLeDiff, Nat.reduceMul, Nat.reduceSub, reduceCtorEq, tbLI0, Tryd.results23, g2, g3, gb, gr, hs, n, q2]
        exact ⟨g2, g3, f0, f1, f2, fun _ => rfl, f4, f5, f8, f9, d7, d10, hr, hb⟩
      · simp only [Nb, base] at n
        simp only [↓rA, rB, Int.reduceEq, Int.reduceLE, Int.reduceLT, Int.reduceToNat, Nat.reduceAdd, Nat.reduceEqDiff, Nat.reduceLT, Nat.reduceLeDiff, Nat.reduceMul, Nat.reduceSub, reduceCtorEq, tbLI0, Tryd.results23, g2, g3, gb, gr, hs, n, q2]
        exact ⟨g2, g3, f0, f1, f2, fun _ => rfl, f4, f5, f8, f9, d7, d10, hr, hb⟩
    | 4, ho =>
      cases ho
      have q3 := f3 (he ⟨3, .data⟩ (by simp) rfl)
      have hb0 := hb
      have hr0 := hr
      rcases hb0 with ⟨h7, gb⟩ | ⟨g, c, h7, n, hc, g22, gb⟩
      · have d7' : also L 4 7 = true → also L 4 4 = true ∧ also L 4 6 = true := fun h => by
          have : L 7 = true := h
          rw [h7] at this; cases this
        rcases hr0 with ⟨h6, gr⟩ | ⟨y, h6, gr, g21⟩
        · simp only [↓rA, rB, Int.reduceEq, Int.reduceLE, Int.reduceLT, Int.reduceToNat, Nat.reduceAdd, Nat.reduceEqDiff, Nat.reduceLT, Nat.reduceLeDiff, Nat.reduceMul, Nat.reduceSub, reduceCtorEq, tbLI0, Tryd.results23, g2, g3, gb, gr, hs, q3]
          exact ⟨g2, g3, f0, f1, f2, f3, fun _ => rfl, f5, f8, f9, d7', d10, hr, hb⟩
        · simp only [↓rA, rB, Int.reduceEq, Int.reduceLE, Int.reduceLT, Int.reduceToNat, Nat.reduceAdd, Nat.reduceEqDiff, Nat.reduceLT, Nat.reduceLeDiff, Nat.reduceMul, Nat.reduceSub, reduceCtorEq, tbLI0, Tryd.results23, g2, g3, gb, gr, hs, q3]
          exact ⟨g2, g3, f0, f1, f2, f3, fun _ => rfl, f5, f8, f9, d7', d10, hr, hb⟩
      · rw [(d7 h7).1] at hL; cases hL
    | 5, ho =>
      cases ho
      have hb0 := hb
      have hr0 := hr
      rcases hb0 with ⟨h7, gb⟩ | ⟨g, c, h7, n, hc, g22, gb⟩ <;> rcases hr0 with ⟨h6, gr⟩ | ⟨y, h6, gr, g21⟩
      · simp only [↓rA, rB, Int.reduceEq, Int.reduceLE, Int.reduceLT, Int.reduceToNat, Nat.reduceAdd, Nat.reduceEqDiff, Nat.reduceLT, Nat.reduceLeDiff, Nat.reduceMul, Nat.reduceSub, reduceCtorEq, tbLI0, Tryd.results23, g2, g3, gb, gr, hs]
        exact ⟨g2, g3, f0, f1, f2, f3, f4, fun _ => rfl, f8, f9, d7, d10, hr, hb⟩
      · simp only [↓rA, rB, Int.reduceEq, Int.reduceLE, Int.reduceLT, Int.reduceToNat, Nat.reduceAdd, Nat.reduceEqDiff, Nat.reduceLT, Nat.reduceLeDiff, Nat.reduceMul, Nat.reduceSub, reduceCtorEq, tbLI0, Tryd.results23, g2, g3, gb, gr, hs]
        exact ⟨g2, g3, f0, f1, f2, f3, f4, fun _ => rfl, f8, f9, d7, d10, hr, hb⟩
      · simp only [Nb, base] at n
        simp only [↓rA, rB, Int.reduceEq, Int.reduceLE, Int.reduceLT, Int.reduceToNat, Nat.reduceAdd, Nat.reduceEqDiff, Nat.reduceLT, Nat.reduceLeDiff, Nat.reduceMul, Nat.reduceSub, reduceCtorEq, tbLI0, Tryd.results23, g2, g3, gb, gr, hs, n]
        exact ⟨g2, g3, f0, f1, f2, f3, f4, fun _ => rfl, f8, f9, d7, d10, hr, hb⟩
      · simp only [Nb, base] at n
        simp only [↓rA, rB, Int.reduceEq, Int.reduceLE, Int.reduceLT, Int.reduceToNat, Nat.reduceAdd, Nat.reduceEqDiff, Nat.reduceLT, Nat.reduceLeDiff, Nat.reduceMul, Nat.reduceSub, reduceCtorEq, tbLI0, Tryd.results23, g2, g3, gb, gr, hs, n]
        exact ⟨g2, g3, f0, f1, f2, f3, f4, fun _ => rfl, f8, f9, d7, d10, hr, hb⟩
    | 6, ho =>
      cases ho
      have q5 := f5 (he ⟨5, .data⟩ (by simp) rfl)
      have hb0 := hb
      rcases hb0 with ⟨h7, gb⟩ | ⟨g, c, h7, n, hc, g22, gb⟩
      · have d7' : also L 6 7 = true → also L 6 4 = true ∧ also L 6 6 = true := fun h => by
          have : L 7 = true := h
          rw [h7] at this; cases this
        rcases hr with ⟨h6, gr⟩ | ⟨y, h6, gr, g21⟩
        · simp only [↓rA, rB, Int.reduceEq, Int.reduceLE, Int.reduceLT, Int.reduceToNat, Nat.reduceAdd, Nat.reduceEqDiff, Nat.reduceLT, Nat.reduceLeDiff, Nat.reduceMul, Nat.reduceSub, reduceCtorEq, tbLI0, Tryd.results23, g2, g3, gb, gr, hs, q5]
          exact fun y => ⟨g2, g3, f0, f1, f2, f3, f4, f5, f8, f9, d7', d10, .inr ⟨y, rfl, (by show _ :: S.rows = _; rw [gr]), rfl⟩, hb⟩
        · rw [hL] at h6; cases h6
      · rw [(d7 h7).2] at hL; cases hL
    | 7, ho =>
      cases ho
      have h4 := he ⟨4, .data⟩ (by simp) rfl
      have h6' := he ⟨6, .data⟩ (by simp) rfl
      replace h4 : L 4 = true := h4
      replace h6' : L 6 = true := h6'
      have q4 := f4 h4
      have d7' : also L 7 7 = true → also L 7 4 = true ∧ also L 7 6 = true := fun _ => ⟨h4, h6'⟩
      rcases hb with ⟨h7, gb⟩ | ⟨g, c, h7, n, hc, g22, gb⟩
      · have h10 : L 10 = false := by
          cases h : L 10
          · rfl
          · rw [h7] at d10; cases d10 h
        rcases hr with ⟨h6, gr⟩ | ⟨y, h6, gr, g21⟩
        · rw [h6'] at h6; cases h6
        · simp only [↓rA, rB, Int.reduceEq, Int.reduceLE, Int.reduceLT, Int.reduceToNat, Nat.reduceAdd, Nat.reduceEqDiff, Nat.reduceLT, Nat.reduceLeDiff, Nat.reduceMul, Nat.reduceSub, reduceCtorEq, tbLI0, Tryd.results23, g2, g3, gb, gr, hs, q4, g21]
          refine Or2.r ?_
          simp only [↓rA, rB, Int.reduceEq, Int.reduceLE, Int.reduceLT, Int.reduceToNat, Nat.reduceAdd, Nat.reduceEqDiff, Nat.reduceLT, Nat.reduceLeDiff, Nat.reduceMul, Nat.reduceSub, reduceCtorEq, tbLI0, Tryd.results23, g2, g3, gb, gr, hs, q4, g21]
          refine fun g c hg hc => ?_
          have n := newb hg
          simp only [↓rA, rB, Int.reduceEq, Int.reduceLE, Int.reduceLT, Int.reduceToNat, Nat.reduceAdd, Nat.reduceEqDiff, Nat.reduceLT, Nat.reduceLeDiff, Nat.reduceMul, Nat.reduceSub, reduceCtorEq, tbLI0, Tryd.results23, g2, g3, gb, gr, hs, q4, g21]
          exact ⟨g2, g3, f0, f1, f2, f3, f4, f5, f8, f9, d7', fun _ => rfl, .inr ⟨y, h6, gr, g21⟩, .inr ⟨g, c, rfl, n, hc, rfl, by show (_, B.c _) :: S.boxes = (_, B.c _) :: base b2 b3 s x (bif L 10 then _ else _); rw [gb, h10]; rfl⟩⟩
      · rw [hL] at h7; cases h7
    | 8, ho =>
      cases ho
      have q0 := f0 (he ⟨0, .data⟩ (by simp) rfl)
      have hb0 := hb
      have hr0 := hr
      rcases hb0 with ⟨h7, gb⟩ | ⟨g, c, h7, n, hc, g22, gb⟩ <;> rcases hr0 with ⟨h6, gr⟩ | ⟨y, h6, gr, g21⟩
      · simp only [↓rA, rB, Int.reduceEq, Int.reduceLE, Int.reduceLT, Int.reduceToNat, Nat.reduceAdd, Nat.reduceEqDiff, Nat.reduceLT, Nat.reduceLeDiff, Nat.reduceMul, Nat.reduceSub, reduceCtorEq, tbLI0, Tryd.results23, g2, g3, gb, gr, hs, q0]
        exact ⟨g2, g3, f0, f1, f2, f3, f4, f5, fun _ => rfl, f9, d7, d10, hr, hb⟩
      · simp only [↓rA, rB, Int.reduceEq, Int.reduceLE, Int.reduceLT, Int.reduceToNat, Nat.reduceAdd, Nat.reduceEqDiff, Nat.reduceLT, Nat.reduceLeDiff, Nat.reduceMul, Nat.reduceSub, reduceCtorEq, tbLI0, Tryd.results23, g2, g3, gb, gr, hs, q0]
        exact ⟨g2, g3, f0, f1, f2, f3, f4, f5, fun _ => rfl, f9, d7, d10, hr, hb⟩
      · simp only [Nb, base] at n
        simp only [↓rA, rB, Int.reduceEq, Int.reduceLE, Int.reduceLT, Int.reduceToNat, Nat.reduceAdd, Nat.reduceEqDiff, Nat.reduceLT, Nat.reduceLeDiff, Nat.reduceMul, Nat.reduceSub, reduceCtorEq, tbLI0, Tryd.results23, g2, g3, gb, gr, hs, n, q0]
        exact ⟨g2, g3, f0, f1, f2, f3, f4, f5, fun _ => rfl, f9, d7, d10, hr, hb⟩
      · simp only [Nb, base] at n
        simp only [↓rA, rB, Int.reduceEq, Int.reduceLE, Int.reduceLT, Int.reduceToNat, Nat.reduceAdd, Nat.reduceEqDiff, Nat.reduceLT, Nat.reduceLeDiff, Nat.reduceMul, Nat.reduceSub, reduceCtorEq, tbLI0, Tryd.results23, g2, g3, gb, gr, hs, n, q0]
        exact ⟨g2, g3, f0, f1, f2, f3, f4, f5, fun _ => rfl, f9, d7, d10, hr, hb⟩
    | 9, ho =>
      cases ho
      have q8 := f8 (he ⟨8, .data⟩ (by simp) rfl)
      have hb0 := hb
      have hr0 := hr
      rcases hb0 with ⟨h7, gb⟩ | ⟨g, c, h7, n, hc, g22, gb⟩ <;> rcases hr0 with ⟨h6, gr⟩ | ⟨y, h6, gr, g21⟩
      · simp only [↓rA, rB, Int.reduceEq, Int.reduceLE, Int.reduceLT, Int.reduceToNat, Nat.reduceAdd, Nat.reduceEqDiff, Nat.reduceLT, Nat.reduceLeDiff, Nat.reduceMul, Nat.reduceSub, reduceCtorEq, tbLI0, Tryd.results23, g2, g3, gb, gr, hs, q8]
        exact ⟨g2, g3, f0, f1, f2, f3, f4, f5, f8, fun _ => rfl, d7, d10, hr, hb⟩
      · simp only [↓rA, rB, Int.reduceEq, Int.reduceLE, Int.reduceLT, Int.reduceToNat, Nat.reduceAdd, Nat.reduceEqDiff, Nat.reduceLT, Nat.reduceLeDiff, Nat.reduceMul, Nat.reduceSub, reduceCtorEq, tbLI0, Tryd.results23, g2, g3, gb, gr, hs, q8]
        exact ⟨g2, g3, f0, f1, f2, f3, f4, f5, f8, fun _ => rfl, d7, d10, hr, hb⟩
      · simp only [Nb, base] at n
        simp only [↓rA, rB, Int.reduceEq, Int.reduceLE, Int.reduceLT, Int.reduceToNat, Nat.reduceAdd, Nat.reduceEqDiff, Nat.reduceLT, Nat.reduceLeDiff, Nat.reduceMul, Nat.reduceSub, reduceCtorEq, tbLI0, Tryd.results23, g2, g3, gb, gr, hs, n, q8]
        exact ⟨g2, g3, f0, f1, f2, f3, f4, f5, f8, fun _ => rfl, d7, d10, hr, hb⟩
      · simp only [Nb, base] at n
        simp only [↓rA, rB, Int.reduceEq, Int.reduceLE, Int.reduceLT, Int.reduceToNat, Nat.reduceAdd, Nat.reduceEqDiff, Nat.reduceLT, Nat.reduceLeDiff, Nat.reduceMul, Nat.reduceSub, reduceCtorEq, tbLI0, Tryd.results23, g2, g3, gb, gr, hs, n, q8]
        exact ⟨g2, g3, f0, f1, f2, f3, f4, f5, f8, fun _ => rfl, d7, d10, hr, hb⟩
    | 10, ho =>
      cases ho
      have h7' := he ⟨7, .data⟩ (by simp) rfl
      have q9 := f9 (he ⟨9, .data⟩ (by simp) rfl)
      replace h7' : L 7 = true := h7'
      have d10' : also L 10 10 = true → also L 10 7 = true := fun _ => h7'
      have hr0 := hr
      rcases hb with ⟨h7, gb⟩ | ⟨g, c, h7, n, hc, g22, gb⟩
      · rw [h7'] at h7; cases h7
      · have n0 := n
        simp only [Nb, base] at n
        rcases hr0 with ⟨h6, gr⟩ | ⟨y, h6, gr, g21⟩
        · simp only [↓rA, rB, Int.reduceEq, Int.reduceLE, Int.reduceLT, Int.reduceToNat, Nat.reduceAdd, Nat.reduceEqDiff, Nat.reduceLT, Nat.reduceLeDiff, Nat.reduceMul, Nat.reduceSub, reduceCtorEq, tbLI0, Tryd.results23, g2, g3, gb, gr, hs, n, q9, g22]
          exact ⟨g2, g3, f0, f1, f2, f3, f4, f5, f8, f9, d7, d10', hr, .inr ⟨g, c, h7, n0, hc, g22, rfl⟩⟩
        · simp only [↓rA, rB, Int.reduceEq, Int.reduceLE, Int.reduceLT, Int.reduceToNat, Nat.reduceAdd, Nat.reduceEqDiff, Nat.reduceLT, Nat.reduceLeDiff, Nat.reduceMul, Nat.reduceSub, reduceCtorEq, tbLI0, Tryd.results23, g2, g3, gb, gr, hs, n, q9, g22]
          exact ⟨g2, g3, f0, f1, f2, f3, f4, f5, f8, f9, d7, d10', hr, .inr ⟨g, c, h7, n0, hc, g22, rfl⟩⟩
    | n + 11, ho => cases ho
  · intro L S hL ⟨g2, g3, f0, f1, f2, f3, f4, f5, f8, f9, d7, d10, hr, hb⟩
    replace hL : ∀ i, i < 11 → L i = true := hL
    have l7 := hL 7 (by decide)
    have l10 := hL 10 (by decide)
    rcases hb with ⟨h7, gb⟩ | ⟨g, c, h7, n, hc, g22, gb⟩
    · rw [l7] at h7; cases h7
    rw [l10] at gb
    simp only [cond_true] at gb
    simp only [Nb, base] at n
    simp only [↓rA, rB, Int.reduceEq, Int.reduceLE, Int.reduceLT, Int.reduceToNat, Nat.reduceAdd, Nat.reduceEqDiff, Nat.reduceLT, Nat.reduceLeDiff, Nat.reduceMul, Nat.reduceSub, reduceCtorEq, tbLI0, Tryd.results23, g2, g3, gb, hs, n]
    have hw := wrap_id (n := ((1 : Nat) : Int) - 1) (by decide) (by decide)
    exact ⟨_, [_, _], [], Le.refl _, List.Sublist.cons_cons _ (List.Sublist.cons _ (List.Sublist.cons _ (List.Sublist.refl _))), List.nil_sublist _, congrArg (fun n => V.lit (.int .i64 n)) hw, .inr ⟨g, c, anys ((c - 1) * 23), by simp, ⟨n.2.2.1.1, n.2.2.1.2⟩, hc, by simp [anys], by simp [bN, cNd_eq]⟩, rfl⟩

set_option linter.defProp false in
def tbLI1 := (And.intro (And.intro (And.intro (And.intro (And.intro (And.intro (And.intro Ty.sz3 Ty.by3) (And.intro Ty.ag3 Ty.zr3)) (And.intro (And.intro Ty.un3 Ty.sz4) (And.intro Ty.by4 Ty.ag4))) (And.intro (And.intro (And.intro Ty.zr4 Ty.un4) (And.intro Ty.sz9 Ty.by9)) (And.intro (And.intro Ty.ag9 Ty.zr9) (And.intro Ty.un9 Ty.sz23)))) (And.intro (And.intro (And.intro (And.intro Ty.by23 Ty.ag23) (And.intro Ty.zr23 Ty.fl23_0)) (And.intro (And.intro Ty.pl23_0 Ty.fl23_1) (And.intro Ty.pl23_1 Ty.fl23_2))) (And.intro (And.intro (And.intro Ty.pl23_2 Ty.sz24) (And.intro Ty.by24 Ty.ag24)) (And.intro (And.intro Ty.zr24 Ty.un24) (And.intro Ty.sz26 Ty.by26))))) (And.intro (And.intro (And.intro (And.intro (And.intro Ty.ag26 Ty.zr26) (And.intro Ty.fl26_0 Ty.pl26_0)) (And.intro (And.intro Ty.fl26_1 Ty.pl26_1) (And.intro Ty.sz27 Ty.by27))) (And.intro (And.intro (And.intro Ty.ag27 Ty.zr27) (And.intro Ty.un27 Ty.sz29)) (And.intro (And.intro Ty.by29 Ty.ag29) (And.intro Ty.zr29 Ty.fl29_0)))) (And.intro (And.intro (And.intro (And.intro Ty.pl29_0 Ty.fl29_1) (And.intro Ty.pl29_1 Ty.fl29_2)) (And.intro (And.intro Ty.pl29_2 Ty.fl29_3) (And.intro Ty.pl29_3 Ty.fl29_4))) (And.intro (And.intro (And.intro Ty.pl29_4 Ty.fl29_5) (And.intro Ty.pl29_5 Ty.fl29_6)) (And.intro (And.intro Ty.pl29_6 Ty.fl29_7) (And.intro Ty.pl29_7 (And.intro Ty.fl29_8 Ty.pl29_8))))))) (And.intro (And.intro (And.intro (And.intro (And.intro (And.intro Ty.sz31 Ty.by31) (And.intro Ty.ag31 Ty.zr31)) (And.intro (And.intro Ty.un31 Ty.sz40) (And.intro Ty.by40 Ty.ag40))) (And.intro (And.intro (And.intro Ty.zr40 Ty.sz41) (And.intro Ty.by41 Ty.ag41)) (And.intro (And.intro Ty.zr41 Ty.un41) (And.intro Ty.sz43 Ty.by43)))) (And.intro (And.intro (And.intro (And.intro Ty.ag43 Ty.zr43) (And.intro Ty.fl43_0 Ty.pl43_0)) (And.intro (And.intro Ty.fl43_1 Ty.pl43_1) (And.intro Ty.fl43_2 Ty.pl43_2))) (And.intro (And.intro (And.intro Ty.fl43_3 Ty.pl43_3) (And.intro Ty.fl43_4 Ty.pl43_4)) (And.intro (And.intro Ty.fl43_5 Ty.pl43_5) (And.intro Ty.fl43_6 (And.intro Ty.pl43_6 Ty.fl43_7)))))) (And.intro (And.intro (And.intro (And.intro (And.intro Ty.pl43_7 Ty.fl43_8) (And.intro Ty.pl43_8 Ty.sz71)) (And.intro (And.intro Ty.by71 Ty.ag71) (And.intro Ty.zr71 Ty.un71))) (And.intro (And.intro (And.intro Ty.sz73 Ty.by73) (And.intro Ty.ag73 Ty.zr73)) (And.intro (And.intro Ty.fl73_0 Ty.pl73_0) (And.intro Ty.fl73_1 Ty.pl73_1)))) (And.intro (And.intro (And.intro (And.intro Ty.sz91 Ty.by91) (And.intro Ty.ag91 Ty.zr91)) (And.intro (And.intro Ty.sz105 Ty.by105) (And.intro Ty.ag105 Ty.zr105))) (And.intro (And.intro (And.intro Ty.fl105_0 Ty.pl105_0) (And.intro Ty.fl105_1 Ty.pl105_1)) (And.intro (And.intro Ty.eq23 Ty.eq26) (And.intro Ty.eq105 (And.intro Ty.cb40 Ty.cb41))))))))
set_option maxHeartbeats 4000000 in
theorem put_new (x : Nd) (s : Nat) (hf : FitN x) (L0 : List Nd) (hL0 : L0.length ≤ 1000000) (hne : x ∉ L0) (g0 c0 : Nat) (rest : List V) (hsg : s ≠ g0 ∧ g0 ≠ s) (hc0 : L0.length ≤ c0) (hre : rest.length = (c0 - L0.length) * 23) :
    Ok Tryd.prog 23 [ptr s, .agg (cNd x)] [(g0, bN L0 rest), (s, .c [slN g0 L0.length c0, fnN])] fun v bs rs => v = vint L0.length ∧ Sh s (L0 ++ [x]) bs ∧ rs = [] := by
  have hq := fun b2 b3 h1 h2 h3 h4 h5 => indexNd_ok x hf L0 (by unfold big; omega) s b2 b3 g0 c0 rest h1 h2 h3 h4 h5 hsg
  rw [idxI, if_neg hne] at hq
  simp only [cNd_eq] at hq ⊢
  have hlen : ((L0.map cNd).flatten ++ rest).length = c0 * 23 := by rw [List.length_append, nds_len, hre, Nat.sub_mul]; have := Nat.mul_le_mul_right 23 hc0; omega
  have hby : (L0.length + 1) * 296 ≤ 140737488355328 := by omega
  refine Ok.of_exM [(4, 3)] Ty.mixed Tryd.func23 rfl (by simp [Tryd.ntmps23]) (by kernel_rfl) fun F w0 I0 => ?_
  simp only [↓rA, rB, Int.reduceEq, Int.reduceLE, Int.reduceLT, Int.reduceToNat, Nat.reduceAdd, Nat.reduceEqDiff, Nat.reduceLT, Nat.reduceLeDiff, Nat.reduceMul, Nat.reduceSub, reduceCtorEq, tbLI1, Tryd.results23]
  refine fun b2 h2 => ?_; replace h2 := newb h2; try simp only [Nb] at h2
  simp only [↓rA, rB, Int.reduceEq, Int.reduceLE, Int.reduceLT, Int.reduceToNat, Nat.reduceAdd, Nat.reduceEqDiff, Nat.reduceLT, Nat.reduceLeDiff, Nat.reduceMul, Nat.reduceSub, reduceCtorEq, tbLI1, Tryd.results23, h2, hsg]
  refine fun b3 h3 => ?_; replace h3 := newb h3; try simp only [Nb] at h3
  simp only [↓rA, rB, Int.reduceEq, Int.reduceLE, Int.reduceLT, Int.reduceToNat, Nat.reduceAdd, Nat.reduceEqDiff, Nat.reduceLT, Nat.reduceLeDiff, Nat.reduceMul, Nat.reduceSub, reduceCtorEq, tbLI1, Tryd.results23, h2, h3, hsg]
  refine OkF_with [_, _, _, _] [] (List.Perm.cons _ (List.Perm.cons _ (List.Perm.swap _ _ _))) (hq b2 b3 h3.1.symm h3.2.2.1.symm h2.2.1.symm h3.2.1.symm h2.1.symm) ?_
  rintro v bs rs ⟨rfl, rfl, rfl⟩
  simp only [↓rA, rB, Int.reduceEq, Int.reduceLE, Int.reduceLT, Int.reduceToNat, Nat.reduceAdd, Nat.reduceEqDiff, Nat.reduceLT, Nat.reduceLeDiff, Nat.reduceMul, Nat.reduceSub, reduceCtorEq, tbLI1, Tryd.results23, h2, h3, hsg]
  have hs := And.intro (And.intro h2 h3) hsg
  refine EX_invA Ty.mixed (by kernel_rfl) (by kernel_rfl) (InP b2 b3 s x (slN g0 L0.length c0) [(g0, bN L0 rest)] L0.length (L0.map cNd).flatten) ?_ ?_ ?_
  · exact ⟨rfl, rfl, (fun h => by cases h), (fun h => by cases h), (fun h => by cases h), (fun h => by cases h), (fun h => by cases h), (fun h => by cases h), (fun h => by cases h), (fun h => by cases h), (fun h => by cases h), (fun h => by cases h), .inl ⟨rfl, rfl⟩, .inl ⟨rfl, rfl⟩⟩
  · intro L S i o ho hL he ⟨g2, g3, f0, f1, f2, f3, f4, f5, f8, f9, d7, d10, hr, hb⟩
    match i, ho with
    | 0, ho =>
      cases ho
      have hb0 := hb
      have hr0 := hr
      rcases hb0 with ⟨h7, gb⟩ | ⟨g, c, h7, n, hc, g22, gb⟩ <;> rcases hr0 with ⟨h6, gr⟩ | ⟨y, h6, gr, g21⟩
      · simp only [↓rA, rB, Int.reduceEq, Int.reduceLE, Int.reduceLT, Int.reduceToNat, Nat.reduceAdd, Nat.reduceEqDiff, Nat.reduceLT, Nat.reduceLeDiff, Nat.reduceMul, Nat.reduceSub, reduceCtorEq, tbLI1, Tryd.results23, g2, g3, gb, gr, hs]
        exact ⟨g2, g3, fun _ => rfl, f1, f2, f3, f4, f5, f8, f9, d7, d10, hr, hb⟩
      · simp only [↓rA, rB, Int.reduceEq, Int.reduceLE, Int.reduceLT, Int.reduceToNat, Nat.reduceAdd, Nat.reduceEqDiff, Nat.reduceLT, Nat.reduceLeDiff, Nat.reduceMul, Nat.reduceSub, reduceCtorEq, tbLI1, Tryd.results23, g2, g3, gb, gr, hs]
        exact ⟨g2, g3, fun _ => rfl, f1, f2, f3, f4, f5, f8, f9, d7, d10, hr, hb⟩
      · simp only [Nb, base] at n
        simp only [↓rA, rB, Int.reduceEq, Int.reduceLE, Int.reduceLT, Int.reduceToNat, Nat.reduceAdd, Nat.reduceEqDiff, Nat.reduceLT, Nat.reduceLeDiff, Nat.reduceMul, Nat.reduceSub, reduceCtorEq, tbLI1, Tryd.results23, g2, g3, gb, gr, hs, n]
        exact ⟨g2, g3, fun _ => rfl, f1, f2, f3, f4, f5, f8, f9, d7, d10, hr, hb⟩
      · simp only [Nb, base] at n
        simp only [↓rA, rB, Int.reduceEq, Int.reduceLE, Int.reduceLT, Int.reduceToNat, Nat.reduceAdd, Nat.reduceEqDiff, Nat.reduceLT, Nat.reduceLeDiff, Nat.reduceMul, Nat.reduceSub, reduceCtorEq, tbLI1, Tryd.results23, g2, g3, gb, gr, hs, n]
        exact ⟨g2, g3, fun _ => rfl, f1, f2, f3, f4, f5, f8, f9, d7, d10, hr, hb⟩
    | 1, ho =>
      cases ho
      have hb0 := hb
      have hr0 := hr
      rcases hb0 with ⟨h7, gb⟩ | ⟨g, c, h7, n, hc, g22, gb⟩ <;> rcases hr0 with ⟨h6, gr⟩ | ⟨y, h6, gr, g21⟩
      · simp only [↓rA, rB, Int.reduceEq, Int.reduceLE, Int.reduceLT, Int.reduceToNat, Nat.reduceAdd, Nat.reduceEqDiff, Nat.reduceLT, Nat.reduceLeDiff, Nat.reduceMul, Nat.reduceSub, reduceCtorEq, tbLI1, Tryd.results23, g2, g3, gb, gr, hs]
        exact ⟨g2, g3, f0, fun _ => rfl, f2, f3, f4, f5, f8, f9, d7, d10, hr, hb⟩
      · simp only [↓rA, rB, Int.reduceEq, Int.reduceLE, Int.reduceLT, Int.reduceToNat, Nat.reduceAdd, Nat.reduceEqDiff, Nat.reduceLT, Nat.reduceLeDiff, Nat.reduceMul, Nat.reduceSub, reduceCtorEq, tbLI1, Tryd.results23, g2, g3, gb, gr, hs]
        exact ⟨g2, g3, f0, fun _ => rfl, f2, f3, f4, f5, f8, f9, d7, d10, hr, hb⟩
      · simp only [Nb, base] at n
        simp only [↓rA, rB, Int.reduceEq, Int.reduceLE, Int.reduceLT, Int.reduceToNat, Nat.reduceAdd, Nat.reduceEqDiff, Nat.reduceLT, Nat.reduceLeDiff, Nat.reduceMul, Nat.reduceSub, reduceCtorEq, tbLI1, Tryd.results23, g2, g3, gb, gr, hs, n]
        exact ⟨g2, g3, f0, fun _ => rfl, f2, f3, f4, f5, f8, f9, d7, d10, hr, hb⟩
      · simp only [Nb, base] at n
        simp only [↓rA, rB, Int.reduceEq, Int.reduceLE, Int.reduceLT, Int.reduceToNat, Nat.reduceAdd, Nat.reduceEqDiff, Nat.reduceLT, Nat.reduceLeDiff, Nat.reduceMul, Nat.reduceSub, reduceCtorEq, tbLI1, Tryd.results23, g2, g3, gb, gr, hs, n]
        exact ⟨g2, g3, f0, fun _ => rfl, f2, f3, f4, f5, f8, f9, d7, d10, hr, hb⟩
    | 2, ho =>
      cases ho
      have q1 := f1 (he ⟨1, .data⟩ (by simp) rfl)
      have hb0 := hb
      have hr0 := hr
      rcases hb0 with ⟨h7, gb⟩ | ⟨g, c, h7, n, hc, g22, gb⟩ <;> rcases hr0 with ⟨h6, gr⟩ | ⟨y, h6, gr, g21⟩
      · simp only [↓rA, rB, Int.reduceEq, Int.reduceLE, Int.reduceLT, Int.reduceToNat, Nat.reduceAdd, Nat.reduceEqDiff, Nat.reduceLT, Nat.reduceLeDiff, Nat.reduceMul, Nat.reduceSub, reduceCtorEq, tbLI1, Tryd.results23, g2, g3, gb, gr, hs, q1]
        exact ⟨g2, g3, f0, f1, fun _ => rfl, f3, f4, f5, f8, f9, d7, d10, hr, hb⟩
      · simp only [↓rA, rB, Int.reduceEq, Int.reduceLE, Int.reduceLT, Int.reduceToNat, Nat.reduceAdd, Nat.reduceEqDiff, Nat.reduceLT, Nat.reduceLeDiff, Nat.reduceMul, Nat.reduceSub, reduceCtorEq, tbLI1, Tryd.results23, g2, g3, gb, gr, hs, q1]
        exact ⟨g2, g3, f0, f1, fun _ => rfl, f3, f4, f5, f8, f9, d7, d10, hr, hb⟩
      · simp only [Nb, base] at n
        simp only [↓rA, rB, Int.reduceEq, Int.reduceLE, Int.reduceLT, Int.reduceToNat, Nat.reduceAdd, Nat.reduceEqDiff, Nat.reduceLT, Nat.reduceLeDiff, Nat.reduceMul, Nat.reduceSub, reduceCtorEq, tbLI1, Tryd.results23, g2, g3, gb, gr, hs, n, q1]
        exact ⟨g2, g3, f0, f1, fun _ => rfl, f3, f4, f5, f8, f9, d7, d10, hr, hb⟩
      · simp only [Nb, base] at n
        simp only [↓rA, rB, Int.reduceEq, Int.reduceLE, Int.reduceLT, Int.reduceToNat, Nat.reduceAdd, Nat.reduceEqDiff, Nat.reduceLT, Nat.reduceLeDiff, Nat.reduceMul, Nat.reduceSub, reduceCtorEq, tbLI1, Tryd.results23, g2, g3, gb, gr, hs, n, q1]
        exact ⟨g2, g3, f0, f1, fun _ => rfl, f3, f4, f5, f8, f9, d7, d10, hr, hb⟩
    | 3, ho =>
      cases ho
      have q2 := f2 (he ⟨2, .data⟩ (by simp) rfl)
      have hb0 := hb
      have hr0 := hr
      rcases hb0 with ⟨h7, gb⟩ | ⟨g, c, h7, n, hc, g22, gb⟩ <;> rcases hr0 with ⟨h6, gr⟩ | ⟨y, h6, gr, g21⟩
      · simp only [↓rA, rB, Int.reduceEq, Int.reduceLE, Int.reduceLT, Int.reduceToNat, Nat.reduceAdd, Nat.reduceEqDiff, Nat.reduceLT, Nat.reduceLeDiff, Nat.reduceMul, Nat.reduceSub, reduceCtorEq, tbLI1, Tryd.results23, g2, g3, gb, gr, hs, q2]
        exact ⟨g2, g3, f0, f1, f2, fun _ => rfl, f4, f5, f8, f9, d7, d10, hr, hb⟩
      · simp only [↓rA, rB, Int.reduceEq, Int.reduceLE, Int.reduceLT, Int.reduceToNat, Nat.reduceAdd, Nat.reduceEqDiff, Nat.reduceLT, Nat.reduceLeDiff, Nat.reduceMul, Nat.reduceSub, reduceCtorEq, tbLI1, Tryd.results23, g2, g3, gb, gr, hs, q2]
        exact ⟨g2, g3, f0, f1, f2, fun _ => rfl, f4, f5, f8, f9, d7, d10, hr, hb⟩
      · simp only [Nb, base] at n
        simp only [↓rA, rB, Int.reduceEq, Int.reduceLE, Int.reduceLT, Int.reduceToNat, Nat.reduceAdd, Nat.reduceEqDiff, Nat.reduceLT, Nat.reduceLeDiff, Nat.reduceMul, Nat.reduceSub, reduceCtorEq, tbLI1, Tryd.results23, g2, g3, gb, gr, hs, n, q2]
        exact ⟨g2, g3, f0, f1, f2, fun _ => rfl, f4, f5, f8, f9, d7, d10, hr, hb⟩
      · simp only [Nb, base] at n
        simp only [↓rA, rB, Int.reduceEq, Int.reduceLE, Int.reduceLT, Int.reduceToNat, Nat.reduceAdd, Nat.reduceEqDiff, Nat.reduceLT, Nat.reduceLeDiff, Nat.reduceMul, Nat.reduceSub, reduceCtorEq, tbLI1, Tryd.results23, g2, g3, gb, gr, hs, n, q2]
        exact ⟨g2, g3, f0, f1, f2, fun _ => rfl, f4, f5, f8, f9, d7, d10, hr, hb⟩
    | 4, ho =>
      cases ho
      have q3 := f3 (he ⟨3, .data⟩ (by simp) rfl)
      have hb0 := hb
      have hr0 := hr
      rcases hb0 with ⟨h7, gb⟩ | ⟨g, c, h7, n, hc, g22, gb⟩
      · have d7' : also L 4 7 = true → also L 4 4 = true ∧ also L 4 6 = true := fun h => by
          have : L 7 = true := h
          rw [h7] at this; cases this
        rcases hr0 with ⟨h6, gr⟩ | ⟨y, h6, gr, g21⟩
        · simp only [↓rA, rB, Int.reduceEq, Int.reduceLE, Int.reduceLT, Int.reduceToNat, Nat.reduceAdd, Nat.reduceEqDiff, Nat.reduceLT, Nat.reduceLeDiff, Nat.reduceMul, Nat.reduceSub, reduceCtorEq, tbLI1, Tryd.results23, g2, g3, gb, gr, hs, q3]
          exact ⟨g2, g3, f0, f1, f2, f3, fun _ => rfl, f5, f8, f9, d7', d10, hr, hb⟩
        · simp only [↓rA, rB, Int.reduceEq, Int.reduceLE, Int.reduceLT, Int.reduceToNat, Nat.reduceAdd, Nat.reduceEqDiff, Nat.reduceLT, Nat.reduceLeDiff, Nat.reduceMul, Nat.reduceSub, reduceCtorEq, tbLI1, Tryd.results23, g2, g3, gb, gr, hs, q3]
          exact ⟨g2, g3, f0, f1, f2, f3, fun _ => rfl, f5, f8, f9, d7', d10, hr, hb⟩
      · rw [(d7 h7).1] at hL; cases hL
    | 5, ho =>
      cases ho
      have hb0 := hb
      have hr0 := hr
      rcases hb0 with ⟨h7, gb⟩ | ⟨g, c, h7, n, hc, g22, gb⟩ <;> rcases hr0 with ⟨h6, gr⟩ | ⟨y, h6, gr, g21⟩
      · simp only [↓rA, rB, Int.reduceEq, Int.reduceLE, Int.reduceLT, Int.reduceToNat, Nat.reduceAdd, Nat.reduceEqDiff, Nat.reduceLT, Nat.reduceLeDiff, Nat.reduceMul, Nat.reduceSub, reduceCtorEq, tbLI1, Tryd.results23, g2, g3, gb, gr, hs]
        exact ⟨g2, g3, f0, f1, f2, f3, f4, fun _ => rfl, f8, f9, d7, d10, hr, hb⟩
      · simp only [↓rA, rB, Int.reduceEq, Int.reduceLE, Int.reduceLT, Int.reduceToNat, Nat.reduceAdd, Nat.reduceEqDiff, Nat.reduceLT, Nat.reduceLeDiff, Nat.reduceMul, Nat.reduceSub, reduceCtorEq, tbLI1, Tryd.results23, g2, g3, gb, gr, hs]
        exact ⟨g2, g3, f0, f1, f2, f3, f4, fun _ => rfl, f8, f9, d7, d10, hr, hb⟩
      · simp only [Nb, base] at n
        simp only [↓rA, rB, Int.reduceEq, Int.reduceLE, Int.reduceLT, Int.reduceToNat, Nat.reduceAdd, Nat.reduceEqDiff, Nat.reduceLT, Nat.reduceLeDiff, Nat.reduceMul, Nat.reduceSub, reduceCtorEq, tbLI1, Tryd.results23, g2, g3, gb, gr, hs, n]
        exact ⟨g2, g3, f0, f1, f2, f3, f4, fun _ => rfl, f8, f9, d7, d10, hr, hb⟩
      · simp only [Nb, base] at n
        simp only [↓rA, rB, Int.reduceEq, Int.reduceLE, Int.reduceLT, Int.reduceToNat, Nat.reduceAdd, Nat.reduceEqDiff, Nat.reduceLT, Nat.reduceLeDiff, Nat.reduceMul, Nat.reduceSub, reduceCtorEq, tbLI1, Tryd.results23, g2, g3, gb, gr, hs, n]
        exact ⟨g2, g3, f0, f1, f2, f3, f4, fun _ => rfl, f8, f9, d7, d10, hr, hb⟩
    | 6, ho =>
      cases ho
      have q5 := f5 (he ⟨5, .data⟩ (by simp) rfl)
      have hb0 := hb
      rcases hb0 with ⟨h7, gb⟩ | ⟨g, c, h7, n, hc, g22, gb⟩
      · have d7' : also L 6 7 = true → also L 6 4 = true ∧ also L 6 6 = true := fun h => by
          have : L 7 = true := h
          rw [h7] at this; cases this
        rcases hr with ⟨h6, gr⟩ | ⟨y, h6, gr, g21⟩
        · simp only [↓rA, rB, Int.reduceEq, Int.reduceLE, Int.reduceLT, Int.reduceToNat, Nat.reduceAdd, Nat.reduceEqDiff, Nat.reduceLT, Nat.reduceLeDiff, Nat.reduceMul, Nat.reduceSub, reduceCtorEq, tbLI1, Tryd.results23, g2, g3, gb, gr, hs, q5]
          exact fun y => ⟨g2, g3, f0, f1, f2, f3, f4, f5, f8, f9, d7', d10, .inr ⟨y, rfl, (by show _ :: S.rows = _; rw [gr]), rfl⟩, hb⟩
        · rw [hL] at h6; cases h6
      · rw [(d7 h7).2] at hL; cases hL
    | 7, ho =>
      cases ho
      have h4 := he ⟨4, .data⟩ (by simp) rfl
      have h6' := he ⟨6, .data⟩ (by simp) rfl
      replace h4 : L 4 = true := h4
      replace h6' : L 6 = true := h6'
      have q4 := f4 h4
      have d7' : also L 7 7 = true → also L 7 4 = true ∧ also L 7 6 = true := fun _ => ⟨h4, h6'⟩
      rcases hb with ⟨h7, gb⟩ | ⟨g, c, h7, n, hc, g22, gb⟩
      · have h10 : L 10 = false := by
          cases h : L 10
          · rfl
          · rw [h7] at d10; cases d10 h
        rcases hr with ⟨h6, gr⟩ | ⟨y, h6, gr, g21⟩
        · rw [h6'] at h6; cases h6
        · simp only [↓rA, rB, Int.reduceEq, Int.reduceLE, Int.reduceLT, Int.reduceToNat, Nat.reduceAdd, Nat.reduceEqDiff, Nat.reduceLT, Nat.reduceLeDiff, Nat.reduceMul, Nat.reduceSub, reduceCtorEq, tbLI1, Tryd.results23, g2, g3, gb, gr, hs, q4, g21]
          have hrem : remB (base b2 b3 s x (slN g0 L0.length c0) ++ [(g0, bN L0 rest)]) g0 = base b2 b3 s x (slN g0 L0.length c0) := by
            simp [remB, h2.1.1, h2.1.2, h3.2.1.1, h3.2.1.2, hsg.1, hsg.2]
          refine Or2.r ?_
          simp only [↓rA, rB, Int.reduceEq, Int.reduceLE, Int.reduceLT, Int.reduceToNat, Nat.reduceAdd, Nat.reduceEqDiff, Nat.reduceLT, Nat.reduceLeDiff, Nat.reduceMul, Nat.reduceSub, reduceCtorEq, tbLI1, Tryd.results23, g2, g3, gb, gr, hs, q4, g21]
          refine ⟨⟨hlen, hc0, hby⟩, fun g c hg hc => ?_⟩
          replace hg : ¬ g ∈ blks (remB (base b2 b3 s x (slN g0 L0.length c0) ++ [(g0, bN L0 rest)]) g0) _ := hg
          rw [hrem] at hg
          have n := newb hg
          simp only [↓rA, rB, Int.reduceEq, Int.reduceLE, Int.reduceLT, Int.reduceToNat, Nat.reduceAdd, Nat.reduceEqDiff, Nat.reduceLT, Nat.reduceLeDiff, Nat.reduceMul, Nat.reduceSub, reduceCtorEq, tbLI1, Tryd.results23, g2, g3, gb, gr, hs, q4, g21]
          exact ⟨g2, g3, f0, f1, f2, f3, f4, f5, f8, f9, d7', fun _ => rfl, .inr ⟨y, h6, gr, g21⟩, .inr ⟨g, c, rfl, n, hc, rfl, by
            show (_, B.c (List.take _ _ ++ _ ++ _)) :: remB (base b2 b3 s x (slN g0 L0.length c0) ++ [(g0, bN L0 rest)]) g0 = (_, B.c _) :: base b2 b3 s x (bif L 10 then _ else _)
            rw [h10, hrem, List.take_left' (nds_len L0)]
            simp⟩⟩
      · rw [hL] at h7; cases h7
    | 8, ho =>
      cases ho
      have q0 := f0 (he ⟨0, .data⟩ (by simp) rfl)
      have hb0 := hb
      have hr0 := hr
      rcases hb0 with ⟨h7, gb⟩ | ⟨g, c, h7, n, hc, g22, gb⟩ <;> rcases hr0 with ⟨h6, gr⟩ | ⟨y, h6, gr, g21⟩
      · simp only [↓rA, rB, Int.reduceEq, Int.reduceLE, Int.reduceLT, Int.reduceToNat, Nat.reduceAdd, Nat.reduceEqDiff, Nat.reduceLT, Nat.reduceLeDiff, Nat.reduceMul, Nat.reduceSub, reduceCtorEq, tbLI1, Tryd.results23, g2, g3, gb, gr, hs, q0]
        exact ⟨g2, g3, f0, f1, f2, f3, f4, f5, fun _ => rfl, f9, d7, d10, hr, hb⟩
      · simp only [↓rA, rB, Int.reduceEq, Int.reduceLE, Int.reduceLT, Int.reduceToNat, Nat.reduceAdd, Nat.reduceEqDiff, Nat.reduceLT, Nat.reduceLeDiff, Nat.reduceMul, Nat.reduceSub, reduceCtorEq, tbLI1, Tryd.results23, g2, g3, gb, gr, hs, q0]
        exact ⟨g2, g3, f0, f1, f2, f3, f4, f5, fun _ => rfl, f9, d7, d10, hr, hb⟩
      · simp only [Nb, base] at n
        simp only [↓rA, rB, Int.reduceEq, Int.reduceLE, Int.reduceLT, Int.reduceToNat, Nat.reduceAdd, Nat.reduceEqDiff, Nat.reduceLT, Nat.reduceLeDiff, Nat.reduceMul, Nat.reduceSub, reduceCtorEq, tbLI1, Tryd.results23, g2, g3, gb, gr, hs, n, q0]
        exact ⟨g2, g3, f0, f1, f2, f3, f4, f5, fun _ => rfl, f9, d7, d10, hr, hb⟩
      · simp only [Nb, base] at n
        simp only [↓rA, rB, Int.reduceEq, Int.reduceLE, Int.reduceLT, Int.reduceToNat, Nat.reduceAdd, Nat.reduceEqDiff, Nat.reduceLT, Nat.reduceLeDiff, Nat.reduceMul, Nat.reduceSub, reduceCtorEq, tbLI1, Tryd.results23, g2, g3, gb, gr, hs, n, q0]
        exact ⟨g2, g3, f0, f1, f2, f3, f4, f5, fun _ => rfl, f9, d7, d10, hr, hb⟩
    | 9, ho =>
      cases ho
      have q8 := f8 (he ⟨8, .data⟩ (by simp) rfl)
      have hb0 := hb
      have hr0 := hr
      rcases hb0 with ⟨h7, gb⟩ | ⟨g, c, h7, n, hc, g22, gb⟩ <;> rcases hr0 with ⟨h6, gr⟩ | ⟨y, h6, gr, g21⟩
      · simp only [↓rA, rB, Int.reduceEq, Int.reduceLE, Int.reduceLT, Int.reduceToNat, Nat.reduceAdd, Nat.reduceEqDiff, Nat.reduceLT, Nat.reduceLeDiff, Nat.reduceMul, Nat.reduceSub, reduceCtorEq, tbLI1, Tryd.results23, g2, g3, gb, gr, hs, q8]
        exact ⟨g2, g3, f0, f1, f2, f3, f4, f5, f8, fun _ => rfl, d7, d10, hr, hb⟩
      · simp only [↓rA, rB, Int.reduceEq, Int.reduceLE, Int.reduceLT, Int.reduceToNat, Nat.reduceAdd, Nat.reduceEqDiff, Nat.reduceLT, Nat.reduceLeDiff, Nat.reduceMul, Nat.reduceSub, reduceCtorEq, tbLI1, Tryd.results23, g2, g3, gb, gr, hs, q8]
        exact ⟨g2, g3, f0, f1, f2, f3, f4, f5, f8, fun _ => rfl, d7, d10, hr, hb⟩
      · simp only [Nb, base] at n
        simp only [↓rA, rB, Int.reduceEq, Int.reduceLE, Int.reduceLT, Int.reduceToNat, Nat.reduceAdd, Nat.reduceEqDiff, Nat.reduceLT, Nat.reduceLeDiff, Nat.reduceMul, Nat.reduceSub, reduceCtorEq, tbLI1, Tryd.results23, g2, g3, gb, gr, hs, n, q8]
        exact ⟨g2, g3, f0, f1, f2, f3, f4, f5, f8, fun _ => rfl, d7, d10, hr, hb⟩
      · simp only [Nb, base] at n
        simp only [↓rA, rB, Int.reduceEq, Int.reduceLE, Int.reduceLT, Int.reduceToNat, Nat.reduceAdd, Nat.reduceEqDiff, Nat.reduceLT, Nat.reduceLeDiff, Nat.reduceMul, Nat.reduceSub, reduceCtorEq, tbLI1, Tryd.results23, g2, g3, gb, gr, hs, n, q8]
        exact ⟨g2, g3, f0, f1, f2, f3, f4, f5, f8, fun _ => rfl, d7, d10, hr, hb⟩
    | 10, ho =>
      cases ho
      have h7' := he ⟨7, .data⟩ (by simp) rfl
      have q9 := f9 (he ⟨9, .data⟩ (by simp) rfl)
      replace h7' : L 7 = true := h7'
      have d10' : also L 10 10 = true → also L 10 7 = true := fun _ => h7'
      have hr0 := hr
      rcases hb with ⟨h7, gb⟩ | ⟨g, c, h7, n, hc, g22, gb⟩
      · rw [h7'] at h7; cases h7
      · have n0 := n
        simp only [Nb, base] at n
        rcases hr0 with ⟨h6, gr⟩ | ⟨y, h6, gr, g21⟩
        · simp only [↓rA, rB, Int.reduceEq, Int.reduceLE, Int.reduceLT, Int.reduceToNat, Nat.reduceAdd, Nat.reduceEqDiff, Nat.reduceLT, Nat.reduceLeDiff, Nat.reduceMul, Nat.reduceSub, reduceCtorEq, tbLI1, Tryd.results23, g2, g3, gb, gr, hs, n, q9, g22]
          exact ⟨g2, g3, f0, f1, f2, f3, f4, f5, f8, f9, d7, d10', hr, .inr ⟨g, c, h7, n0, hc, g22, rfl⟩⟩
        · simp only [↓rA, rB, Int.reduceEq, Int.reduceLE, Int.reduceLT, Int.reduceToNat, Nat.reduceAdd, Nat.reduceEqDiff, Nat.reduceLT, Nat.reduceLeDiff, Nat.reduceMul, Nat.reduceSub, reduceCtorEq, tbLI1, Tryd.results23, g2, g3, gb, gr, hs, n, q9, g22]
          exact ⟨g2, g3, f0, f1, f2, f3, f4, f5, f8, f9, d7, d10', hr, .inr ⟨g, c, h7, n0, hc, g22, rfl⟩⟩
    | n + 11, ho => cases ho
  · intro L S hL ⟨g2, g3, f0, f1, f2, f3, f4, f5, f8, f9, d7, d10, hr, hb⟩
    replace hL : ∀ i, i < 11 → L i = true := hL
    have l7 := hL 7 (by decide)
    have l10 := hL 10 (by decide)
    rcases hb with ⟨h7, gb⟩ | ⟨g, c, h7, n, hc, g22, gb⟩
    · rw [l7] at h7; cases h7
    rw [l10] at gb
    simp only [cond_true] at gb
    simp only [Nb, base] at n
    simp only [↓rA, rB, Int.reduceEq, Int.reduceLE, Int.reduceLT, Int.reduceToNat, Nat.reduceAdd, Nat.reduceEqDiff, Nat.reduceLT, Nat.reduceLeDiff, Nat.reduceMul, Nat.reduceSub, reduceCtorEq, tbLI1, Tryd.results23, g2, g3, gb, hs, n]
    have hw : IntKind.i64.wrap (((L0.length + 1 : Nat) : Int) - 1) = L0.length := by rw [wrap_id (by omega) (by omega)]; omega
    exact ⟨_, [_, _], [], Le.refl _, List.Sublist.cons_cons _ (List.Sublist.cons _ (List.Sublist.cons _ (List.Sublist.refl _))), List.nil_sublist _, congrArg (fun n => V.lit (.int .i64 n)) hw, .inr ⟨g, c, anys ((c - (L0.length + 1)) * 23), by simp, ⟨n.2.2.1.1, n.2.2.1.2⟩, by simpa using hc, by simp [anys], by simp [bN, cNd_eq]⟩, rfl⟩

end Go.Proofs.YtphkmlogjgeipaaDoor
/- Lowering: the model, how much it makes. -/
namespace Go.Lo
open Go.VL Go.Ar
theorem putM_len (l : List Nd) (n : Nd) : (putM l n).1.length ≤ l.length + 1 := by
  unfold putM; split <;> simp
theorem lowEs_append : ∀ (a b : List E) (L : List Nd), lowEs L (a ++ b) = ((lowEs (lowEs L a).1 b).1, (lowEs L a).2 ++ (lowEs (lowEs L a).1 b).2)
  | [], b, L => by simp [lowEs]
  | x :: r, b, L => by
    simp only [List.cons_append, lowEs]
    rw [lowEs_append r b]
theorem lowE_mk (L : List Nd) (h : Hd) (al : List E) : lowE L (.mk h al) = if h.kind = 5 then aggM L h al else putM (lowEs L al).1 { ownM h al with inn := (lowEs L al).2 } := by
  rw [lowE]
theorem lowE_agg (L : List Nd) (h : Hd) (a c : E) (r : List E) (e : h.kind = 5) : lowE L (.mk h (a :: c :: r)) = overM L h a c := by rw [lowE_mk, if_pos e]; rfl
theorem lowE_op (L : List Nd) (h : Hd) (al : List E) (e : ¬ h.kind = 5) : lowE L (.mk h al) = putM (lowEs L al).1 { ownM h al with inn := (lowEs L al).2 } := by rw [lowE_mk, if_neg e]
theorem overM_len (L : List Nd) (h : Hd) (a c : E) : (overM L h a c).1.length ≤ L.length + 4 := by
  simp only [overM]
  exact Nat.le_trans (putM_len _ _) (Nat.succ_le_succ (Nat.le_trans (putM_len _ _) (Nat.succ_le_succ (Nat.le_trans (putM_len _ _) (Nat.succ_le_succ (putM_len _ _))))))
theorem lowEs_len_of : ∀ (l : List E), (∀ x ∈ l, ∀ L, (lowE L x).1.length ≤ L.length + 4 * sizeE x) → ∀ L, (lowEs L l).1.length ≤ L.length + 4 * sizeEs l
  | [], _, L => by simp [lowEs, sizeEs]
  | x :: r, h, L => by
    simp only [lowEs, sizeEs]
    have h1 := h x List.mem_cons_self L
    have h2 := lowEs_len_of r (fun y hy => h y (List.mem_cons_of_mem _ hy)) (lowE L x).1
    omega
theorem lowE_len : ∀ (x : E) (L : List Nd), (lowE L x).1.length ≤ L.length + 4 * sizeE x := by
  intro x
  induction x using E.ind with
  | h hd l ih =>
  intro L
  rw [lowE_mk, sizeE_mk]
  split
  · unfold aggM
    split
    · have := overM_len L hd (by assumption) (by assumption)
      refine Nat.le_trans (overM_len L hd _ _) ?_
      omega
    · simp only; omega
  · have h1 := lowEs_len_of l ih L
    have h2 := putM_len (lowEs L l).1 { ownM hd l with inn := (lowEs L l).2 }
    omega
theorem lowEs_len (l : List E) (L : List Nd) : (lowEs L l).1.length ≤ L.length + 4 * sizeEs l := lowEs_len_of l (fun x _ => lowE_len x) L
theorem lowEs_ks : ∀ (l : List E) (L : List Nd), (lowEs L l).2.length = l.length
  | [], L => rfl
  | x :: r, L => by simp only [lowEs, List.length_cons, lowEs_ks r]
end Go.Lo

/- Contracts of lowering, part i: put; the walk over an expression. -/
set_option linter.unusedSimpArgs false
set_option maxRecDepth 100000
-- @call 22
namespace Go.Proofs.YtphkmlogjgeipaaDoor
open Go.VL Go.Ar Go.Lo Go.Proofs.YtphkmlogjgeipaaDoor

set_option linter.defProp false in
def tbLJ0 := (And.intro (And.intro (And.intro (And.intro (And.intro (And.intro (And.intro Ty.sz3 Ty.by3) (And.intro Ty.ag3 Ty.zr3)) (And.intro (And.intro Ty.un3 Ty.sz4) (And.intro Ty.by4 Ty.ag4))) (And.intro (And.intro (And.intro Ty.zr4 Ty.un4) (And.intro Ty.sz9 Ty.by9)) (And.intro (And.intro Ty.ag9 Ty.zr9) (And.intro Ty.un9 Ty.sz23)))) (And.intro (And.intro (And.intro (And.intro Ty.by23 Ty.ag23) (And.intro Ty.zr23 Ty.fl23_0)) (And.intro (And.intro Ty.pl23_0 Ty.fl23_1) (And.intro Ty.pl23_1 Ty.fl23_2))) (And.intro (And.intro (And.intro Ty.pl23_2 Ty.sz24) (And.intro Ty.by24 Ty.ag24)) (And.intro (And.intro Ty.zr24 Ty.un24) (And.intro Ty.sz26 (And.intro Ty.by26 Ty.ag26)))))) (And.intro (And.intro (And.intro (And.intro (And.intro Ty.zr26 Ty.fl26_0) (And.intro Ty.pl26_0 Ty.fl26_1)) (And.intro (And.intro Ty.pl26_1 Ty.sz27) (And.intro Ty.by27 Ty.ag27))) (And.intro (And.intro (And.intro Ty.zr27 Ty.un27) (And.intro Ty.sz29 Ty.by29)) (And.intro (And.intro Ty.ag29 Ty.zr29) (And.intro Ty.fl29_0 Ty.pl29_0)))) (And.intro (And.intro (And.intro (And.intro Ty.fl29_1 Ty.pl29_1) (And.intro Ty.fl29_2 Ty.pl29_2)) (And.intro (And.intro Ty.fl29_3 Ty.pl29_3) (And.intro Ty.fl29_4 Ty.pl29_4))) (And.intro (And.intro (And.intro Ty.fl29_5 Ty.pl29_5) (And.intro Ty.fl29_6 Ty.pl29_6)) (And.intro (And.intro Ty.fl29_7 Ty.pl29_7) (And.intro Ty.fl29_8 (And.intro Ty.pl29_8 Ty.sz31))))))) (And.intro (And.intro (And.intro (And.intro (And.intro (And.intro Ty.by31 Ty.ag31) (And.intro Ty.zr31 Ty.un31)) (And.intro (And.intro Ty.sz40 Ty.by40) (And.intro Ty.ag40 Ty.zr40))) (And.intro (And.intro (And.intro Ty.sz41 Ty.by41) (And.intro Ty.ag41 Ty.zr41)) (And.intro (And.intro Ty.un41 Ty.sz43) (And.intro Ty.by43 Ty.ag43)))) (And.intro (And.intro (And.intro (And.intro Ty.zr43 Ty.fl43_0) (And.intro Ty.pl43_0 Ty.fl43_1)) (And.intro (And.intro Ty.pl43_1 Ty.fl43_2) (And.intro Ty.pl43_2 Ty.fl43_3))) (And.intro (And.intro (And.intro Ty.pl43_3 Ty.fl43_4) (And.intro Ty.pl43_4 Ty.fl43_5)) (And.intro (And.intro Ty.pl43_5 Ty.fl43_6) (And.intro Ty.pl43_6 (And.intro Ty.fl43_7 Ty.pl43_7)))))) (And.intro (And.intro (And.intro (And.intro (And.intro Ty.fl43_8 Ty.pl43_8) (And.intro Ty.sz71 Ty.by71)) (And.intro (And.intro Ty.ag71 Ty.zr71) (And.intro Ty.un71 Ty.sz73))) (And.intro (And.intro (And.intro Ty.by73 Ty.ag73) (And.intro Ty.zr73 Ty.fl73_0)) (And.intro (And.intro Ty.pl73_0 Ty.fl73_1) (And.intro Ty.pl73_1 Ty.sz91)))) (And.intro (And.intro (And.intro (And.intro Ty.by91 Ty.ag91) (And.intro Ty.zr91 Ty.sz105)) (And.intro (And.intro Ty.by105 Ty.ag105) (And.intro Ty.zr105 Ty.fl105_0))) (And.intro (And.intro (And.intro Ty.pl105_0 Ty.fl105_1) (And.intro Ty.pl105_1 Ty.eq23)) (And.intro (And.intro Ty.eq26 Ty.eq105) (And.intro Ty.cb22 (And.intro Ty.cb40 Ty.cb41))))))))
theorem put_old (x : Nd) (s : Nat) (hf : FitN x) (L0 : List Nd) (hL0 : L0.length ≤ 1000000) (hin : x ∈ L0) (g0 c0 : Nat) (rest : List V) (hsg : s ≠ g0 ∧ g0 ≠ s) :
    Ok Tryd.prog 23 [ptr s, .agg (cNd x)] [(g0, bN L0 rest), (s, .c [slN g0 L0.length c0, fnN])] fun v bs rs => v = vint (idxM L0 x) ∧ bs = [(s, .c [slN g0 L0.length c0, fnN]), (g0, bN L0 rest)] ∧ rs = [] := by
  have hq := fun b2 b3 h1 h2 h3 h4 h5 => indexNd_ok x hf L0 (by unfold big; omega) s b2 b3 g0 c0 rest h1 h2 h3 h4 h5 hsg
  rw [idxI, if_pos hin] at hq
  simp only [cNd_eq] at hq ⊢
  refine Ok.of_exM [(4, 3)] Ty.mixed Tryd.func23 rfl (by simp [Tryd.ntmps23]) (by kernel_rfl) fun F w0 I0 => ?_
  simp only [↓rA, rB, Int.reduceEq, Int.reduceLE, Int.reduceLT, Int.reduceToNat, Nat.reduceAdd, Nat.reduceEqDiff, Nat.reduceLT, Nat.reduceLeDiff, Nat.reduceMul, Nat.reduceSub, reduceCtorEq, tbLJ0, Tryd.results23]
  refine fun b2 h2 => ?_; replace h2 := newb h2; try simp only [Nb] at h2
  simp only [↓rA, rB, Int.reduceEq, Int.reduceLE, Int.reduceLT, Int.reduceToNat, Nat.reduceAdd, Nat.reduceEqDiff, Nat.reduceLT, Nat.reduceLeDiff, Nat.reduceMul, Nat.reduceSub, reduceCtorEq, tbLJ0, Tryd.results23, h2, hsg]
  refine fun b3 h3 => ?_; replace h3 := newb h3; try simp only [Nb] at h3
  simp only [↓rA, rB, Int.reduceEq, Int.reduceLE, Int.reduceLT, Int.reduceToNat, Nat.reduceAdd, Nat.reduceEqDiff, Nat.reduceLT, Nat.reduceLeDiff, Nat.reduceMul, Nat.reduceSub, reduceCtorEq, tbLJ0, Tryd.results23, h2, h3, hsg]
  refine OkF_with [_, _, _, _] [] (List.Perm.cons _ (List.Perm.cons _ (List.Perm.swap _ _ _))) (hq b2 b3 h3.1.symm h3.2.2.1.symm h2.2.1.symm h3.2.1.symm h2.1.symm) ?_
  rintro v bs rs ⟨rfl, rfl, rfl⟩
  have h0 : (0 : Int) ≤ (idxM L0 x : Int) := by omega
  simp only [↓rA, rB, Int.reduceEq, Int.reduceLE, Int.reduceLT, Int.reduceToNat, Nat.reduceAdd, Nat.reduceEqDiff, Nat.reduceLT, Nat.reduceLeDiff, Nat.reduceMul, Nat.reduceSub, reduceCtorEq, tbLJ0, Tryd.results23, h2, h3, hsg, h0]
  exact ⟨_, [_, _], [], Le.refl _, List.Sublist.cons _ (List.Sublist.cons _ (List.Sublist.refl _)), List.nil_sublist _, rfl, rfl, rfl⟩
theorem put_ok (x : Nd) (s : Nat) (hf : FitN x) (L : List Nd) (hL : L.length ≤ 1000000) (bs0 : List (Nat × B)) (hs : Sh s L bs0) :
    Ok Tryd.prog 23 [ptr s, .agg (cNd x)] bs0 fun v bs rs => v = vint (putM L x).2 ∧ Sh s (putM L x).1 bs ∧ rs = [] := by
  have hs0 := hs
  rcases hs with ⟨rfl, rfl⟩ | ⟨g, c, rest, hne, hsg, hc, hr, rfl⟩
  · exact (put_nil x s).mono fun v bs rs ⟨h1, h2, h3⟩ => ⟨h1, by simpa [putM] using h2, h3⟩
  · by_cases hx : x ∈ L
    · refine Ok.permR (put_old x s hf L hL hx g c rest hsg) ?_
      rintro v bs rs ⟨rfl, rfl, rfl⟩
      refine ⟨_, List.Perm.swap _ _ _, rfl, ?_, rfl⟩
      simpa [putM, hx] using hs0
    · refine (put_new x s hf L hL hx g c rest hsg hc hr).mono ?_
      rintro v bs rs ⟨rfl, h2, rfl⟩
      refine ⟨congrArg (fun n : Nat => V.lit (.int .i64 n)) ?_, by simpa [putM, hx] using h2, rfl⟩
      exact (idxM_not fun j hj e => hx (by rw [e]; exact List.getElem_mem hj)).symm
/-- Aggregates have their two operands. -/
inductive Agg2 : E → Prop
  | mk (h : Hd) (l : List E) (hk : h.kind = 5 → 2 ≤ l.length) (ha : ∀ x ∈ l, Agg2 x) : Agg2 (.mk h l)
abbrev fnW (b5 b6 : Nat) : V := .lit (.func (.func 22) #[] #[.pointer (some ⟨b5, 0, none⟩), .pointer (some ⟨b6, 0, none⟩)])
abbrev fr (b5 b6 s : Nat) : List (Nat × B) := [(b6, .c [fnW b5 b6]), (b5, .c [ptr s])]
/-- A node's cells, but for its lists. -/
abbrev cNu (n : Nd) (u a i : V) : List V := [vint n.kind, vstr n.table, vint n.expr.hd.kind, vstr n.expr.hd.op, vstr n.expr.hd.name, vstr n.expr.hd.table, vint n.expr.hd.val.kind, vint n.expr.hd.val.n, vstr n.expr.hd.val.s, u, vint n.expr.hd.param, vint n.expr.hd.wk, vint n.expr.hd.ws, a, vstr n.op, vint n.param, vint n.wk, vint n.ws, vint n.val.kind, vint n.val.n, vstr n.val.s, vstr n.name, i]
theorem leN (n : Nd) {u a i : V} (hu : Le u (vFacs n.expr.hd.unit)) (ha : Le a (vEs n.expr.args)) (hi : Le i (vints n.inn)) : Le (.agg (cNu n u a i)) (.agg (cNd n)) :=
  leAgg (.cons (Le.refl _) (.cons (Le.refl _) (.cons (Le.refl _) (.cons (Le.refl _) (.cons (Le.refl _) (.cons (Le.refl _) (.cons (Le.refl _) (.cons (Le.refl _) (.cons (Le.refl _) (.cons hu (.cons (Le.refl _) (.cons (Le.refl _) (.cons (Le.refl _) (.cons ha (.cons (Le.refl _) (.cons (Le.refl _) (.cons (Le.refl _) (.cons (Le.refl _) (.cons (Le.refl _) (.cons (Le.refl _) (.cons (Le.refl _) (.cons (Le.refl _) (.cons hi .nil)))))))))))))))))))))))
theorem leNi (n : Nd) (u a : V) : LeL (cNu n u a nilS) (cNu n u a (.list (some nilv) 1 [])) :=
  .cons (Le.refl _) (.cons (Le.refl _) (.cons (Le.refl _) (.cons (Le.refl _) (.cons (Le.refl _) (.cons (Le.refl _) (.cons (Le.refl _) (.cons (Le.refl _) (.cons (Le.refl _) (.cons (Le.refl _) (.cons (Le.refl _) (.cons (Le.refl _) (.cons (Le.refl _) (.cons (Le.refl _) (.cons (Le.refl _) (.cons (Le.refl _) (.cons (Le.refl _) (.cons (Le.refl _) (.cons (Le.refl _) (.cons (Le.refl _) (.cons (Le.refl _) (.cons (Le.refl _) (.cons (Le.nilOwn 1) .nil))))))))))))))))))))))
theorem fit0 : Fit exp0 := .mk _ _ (by simp [big]) (by simp [big]) (fun x hx => by cases hx)
theorem putF (n : Nd) (s : Nat) (u a i : V) (hu : Le u (vFacs n.expr.hd.unit)) (ha : Le a (vEs n.expr.args)) (hi : Le i (vints n.inn)) (hf : FitN n) (L : List Nd) (hL : L.length ≤ 1000000) (bs0 : List (Nat × B)) (hs : Sh s L bs0) (lf : List (Nat × B)) :
    Ok Tryd.prog 23 [ptr s, .agg (cNu n u a i)] (lf ++ bs0) fun v bs rs => ∃ b1, bs = lf ++ b1 ∧ ((lf ++ b1).map (·.1)).Nodup ∧ v = vint (putM L n).2 ∧ Sh s (putM L n).1 b1 ∧ rs = [] :=
  Ok.le (.cons (Le.refl _) (.cons (leN n hu ha hi) .nil)) (Ok.frame lf (put_ok n s hf L hL bs0 hs))
abbrev pt8 (b o : Nat) : V := .lit (.pointer (some ⟨b, o, none⟩))
abbrev rI (y : Value) : VL.Row := ⟨y, 1, 3⟩
/-- The region that appends an operand's index: what its operations have done. -/
def In21 (b3 b5 b6 b8 b10 s : Nat) (hd : Hd) (l : List E) (x : E) (no : Nd) (u a : V) (y : Value) (ks : List Int) (Li : List Nd) (p : List Nd × Nat) (i : Nat) (L : Nat → Bool) (S : St) : Prop :=
  S.σ 1 = ptr b5 ∧ S.σ 2 = ptr b6 ∧ S.σ 3 = ptr b3 ∧ S.σ 8 = ptr b8 ∧ S.σ 10 = ptr b10 ∧ S.σ 76 = vEs l ∧ S.σ 77 = vint l.length ∧ S.σ 78 = vint i ∧
  (L 0 = true → S.σ 82 = pt8 b8 22) ∧ (L 1 = true → S.σ 83 = .list (some y) 1 (ks.map fun k => [vint k])) ∧ (L 2 = true → S.σ 84 = fnW b5 b6) ∧ (L 3 = true → S.σ 85 = .agg (cH x.hd (vEs x.args))) ∧ (L 7 = true → S.σ 89 = pt8 b8 22) ∧
  ((L 4 = false ∧ L 5 = false ∧ L 6 = false ∧ L 8 = false ∧ S.rows = [rI y] ∧ ∃ bs', Sh s Li bs' ∧ S.boxes = (b10, .c (cH x.hd (vEs x.args))) :: (b8, .c (cNu no u a (.list (some y) 1 (ks.map fun k => [vint k])))) :: (b3, .c (cH hd (vEs l))) :: (fr b5 b6 s ++ bs')) ∨
   (L 4 = true ∧ L 5 = false ∧ L 6 = false ∧ L 8 = false ∧ S.rows = [rI y] ∧ S.σ 86 = vint p.2 ∧ ∃ bs', Sh s p.1 bs' ∧ S.boxes = (b10, .c (cH x.hd (vEs x.args))) :: (b8, .c (cNu no u a (.list (some y) 1 (ks.map fun k => [vint k])))) :: (b3, .c (cH hd (vEs l))) :: (fr b5 b6 s ++ bs')) ∨
   (∃ y5, L 4 = true ∧ L 5 = true ∧ L 6 = false ∧ L 8 = false ∧ S.rows = [rI y5, rI y] ∧ S.σ 87 = .list (some y5) 1 [[vint p.2]] ∧ ∃ bs', Sh s p.1 bs' ∧ S.boxes = (b10, .c (cH x.hd (vEs x.args))) :: (b8, .c (cNu no u a (.list (some y) 1 (ks.map fun k => [vint k])))) :: (b3, .c (cH hd (vEs l))) :: (fr b5 b6 s ++ bs')) ∨
   (∃ y6 rr, L 4 = true ∧ L 5 = true ∧ L 6 = true ∧ L 8 = false ∧ L 1 = true ∧ S.rows = rI y6 :: rr ∧ S.σ 88 = .list (some y6) 1 ((ks.map fun k => [vint k]) ++ [[vint p.2]]) ∧ ∃ bs', Sh s p.1 bs' ∧ S.boxes = (b10, .c (cH x.hd (vEs x.args))) :: (b8, .c (cNu no u a (.list (some y) 1 (ks.map fun k => [vint k])))) :: (b3, .c (cH hd (vEs l))) :: (fr b5 b6 s ++ bs')) ∨
   (∃ y6 rr, L 4 = true ∧ L 5 = true ∧ L 6 = true ∧ L 8 = true ∧ L 1 = true ∧ S.rows = rI y6 :: rr ∧ ∃ bs', Sh s p.1 bs' ∧ S.boxes = (b10, .c (cH x.hd (vEs x.args))) :: (b8, .c (cNu no u a (.list (some y6) 1 ((ks.map fun k => [vint k]) ++ [[vint p.2]])))) :: (b3, .c (cH hd (vEs l))) :: (fr b5 b6 s ++ bs')))
set_option linter.defProp false in
def tbLJ1 := (And.intro (And.intro (And.intro (And.intro (And.intro (And.intro (And.intro Ty.sz3 Ty.by3) (And.intro Ty.ag3 Ty.zr3)) (And.intro (And.intro Ty.un3 Ty.sz4) (And.intro Ty.by4 Ty.ag4))) (And.intro (And.intro (And.intro Ty.zr4 Ty.un4) (And.intro Ty.sz9 Ty.by9)) (And.intro (And.intro Ty.ag9 Ty.zr9) (And.intro Ty.un9 Ty.sz23)))) (And.intro (And.intro (And.intro (And.intro Ty.by23 Ty.ag23) (And.intro Ty.zr23 Ty.fl23_0)) (And.intro (And.intro Ty.pl23_0 Ty.fl23_1) (And.intro Ty.pl23_1 Ty.fl23_2))) (And.intro (And.intro (And.intro Ty.pl23_2 Ty.sz24) (And.intro Ty.by24 Ty.ag24)) (And.intro (And.intro Ty.zr24 Ty.un24) (And.intro Ty.sz26 Ty.by26))))) (And.intro (And.intro (And.intro (And.intro (And.intro Ty.ag26 Ty.zr26) (And.intro Ty.fl26_0 Ty.pl26_0)) (And.intro (And.intro Ty.fl26_1 Ty.pl26_1) (And.intro Ty.sz27 Ty.by27))) (And.intro (And.intro (And.intro Ty.ag27 Ty.zr27) (And.intro Ty.un27 Ty.sz29)) (And.intro (And.intro Ty.by29 Ty.ag29) (And.intro Ty.zr29 Ty.fl29_0)))) (And.intro (And.intro (And.intro (And.intro Ty.pl29_0 Ty.fl29_1) (And.intro Ty.pl29_1 Ty.fl29_2)) (And.intro (And.intro Ty.pl29_2 Ty.fl29_3) (And.intro Ty.pl29_3 Ty.fl29_4))) (And.intro (And.intro (And.intro Ty.pl29_4 Ty.fl29_5) (And.intro Ty.pl29_5 Ty.fl29_6)) (And.intro (And.intro Ty.pl29_6 Ty.fl29_7) (And.intro Ty.pl29_7 (And.intro Ty.fl29_8 Ty.pl29_8))))))) (And.intro (And.intro (And.intro (And.intro (And.intro (And.intro Ty.sz31 Ty.by31) (And.intro Ty.ag31 Ty.zr31)) (And.intro (And.intro Ty.un31 Ty.sz40) (And.intro Ty.by40 Ty.ag40))) (And.intro (And.intro (And.intro Ty.zr40 Ty.sz41) (And.intro Ty.by41 Ty.ag41)) (And.intro (And.intro Ty.zr41 Ty.un41) (And.intro Ty.sz43 Ty.by43)))) (And.intro (And.intro (And.intro (And.intro Ty.ag43 Ty.zr43) (And.intro Ty.fl43_0 Ty.pl43_0)) (And.intro (And.intro Ty.fl43_1 Ty.pl43_1) (And.intro Ty.fl43_2 Ty.pl43_2))) (And.intro (And.intro (And.intro Ty.fl43_3 Ty.pl43_3) (And.intro Ty.fl43_4 Ty.pl43_4)) (And.intro (And.intro Ty.fl43_5 Ty.pl43_5) (And.intro Ty.fl43_6 (And.intro Ty.pl43_6 Ty.fl43_7)))))) (And.intro (And.intro (And.intro (And.intro (And.intro Ty.pl43_7 Ty.fl43_8) (And.intro Ty.pl43_8 Ty.sz71)) (And.intro (And.intro Ty.by71 Ty.ag71) (And.intro Ty.zr71 Ty.un71))) (And.intro (And.intro (And.intro Ty.sz73 Ty.by73) (And.intro Ty.ag73 Ty.zr73)) (And.intro (And.intro Ty.fl73_0 Ty.pl73_0) (And.intro Ty.fl73_1 Ty.pl73_1)))) (And.intro (And.intro (And.intro (And.intro Ty.sz74 Ty.by74) (And.intro Ty.ag74 Ty.zr74)) (And.intro (And.intro Ty.sz105 Ty.by105) (And.intro Ty.ag105 Ty.zr105))) (And.intro (And.intro (And.intro Ty.fl105_0 Ty.pl105_0) (And.intro Ty.fl105_1 Ty.pl105_1)) (And.intro (And.intro Ty.eq23 Ty.eq26) (And.intro Ty.eq105 (And.intro Ty.cb22 Ty.cb23))))))))
set_option maxHeartbeats 4000000 in
theorem walk_ok : ∀ x : E, Fit x → Agg2 x → ∀ (b5 b6 s : Nat) (hb : b5 ≠ b6 ∧ b6 ≠ b5) (L : List Nd) (bs0 : List (Nat × B)), Sh s L bs0 → L.length + 4 * sizeE x ≤ 1000000 →
    Ok Tryd.prog 22 [vE x, ptr b5, ptr b6] (fr b5 b6 s ++ bs0) fun v bs rs => v = vint (lowE L x).2 ∧ (∃ bs1, bs = fr b5 b6 s ++ bs1 ∧ Sh s (lowE L x).1 bs1) ∧ rs = [] := by
  intro x
  induction x using E.ind with
  | h hd l ih =>
  intro hf hg b5 b6 s hb L bs0 hs hL
  have hl := hf.len
  have hu := hf.unit
  have ha := hf.args
  simp only [E.args, E.hd, big] at hl ha hu
  rw [vE, cE_mk]
  refine Ok.of_exM [(3, 4), (4, 4), (21, 3)] Ty.mixed Tryd.func22 rfl (by simp [Tryd.ntmps22]) (by kernel_rfl) fun F w0 I0 => ?_
  simp only [↓rA, rB, Int.reduceEq, Int.reduceLE, Int.reduceLT, Int.reduceToNat, Nat.reduceAdd, Nat.reduceEqDiff, Nat.reduceLT, Nat.reduceLeDiff, Nat.reduceMul, Nat.reduceSub, reduceCtorEq, tbLJ1, Tryd.results22]
  refine fun b3 h3 => ?_; replace h3 := newb h3; try simp only [Nb] at h3
  by_cases e : hd.kind = 5
  · have h2 : 2 ≤ l.length := by cases hg with | mk _ _ hk _ => exact hk e
    match l, h2 with
    | a :: c :: r, _ =>
    simp only [↓rA, rB, Int.reduceEq, Int.reduceLE, Int.reduceLT, Int.reduceToNat, Nat.reduceAdd, Nat.reduceEqDiff, Nat.reduceLT, Nat.reduceLeDiff, Nat.reduceMul, Nat.reduceSub, reduceCtorEq, tbLJ1, Tryd.results22, h3, e, hb]
    have fa := ha a (by simp)
    have fc := ha c (by simp)
    have hL4 : L.length + 4 ≤ 1000000 := by rw [sizeE_mk] at hL; omega
    have hov : lowE L (.mk hd (a :: c :: r)) = overM L hd a c := lowE_agg L hd a c r e
    rw [hov]
    unfold overM
    have one : ∀ (k : Int), [k].length ≤ big := fun k => by simp [big]
    have l1 := putM_len L { nd0 1 with table := hd.table }
    refine OkF_with _ [] (List.Perm.of_eq (List.append_nil _).symm) (putF { nd0 1 with table := hd.table } s nilS nilS nilS (Le.nil 2) (Le.nil 12) (Le.nil 1) ⟨fit0, by simp [big]⟩ L (by omega) bs0 hs [_, _, _]) ?_
    rintro v bs rs ⟨b1, rfl, _, rfl, hs1, rfl⟩
    generalize putM L { nd0 1 with table := hd.table } = p at l1 hs1 ⊢
    try simp only
    have i1 : (1 : Int) < ((r.length + 1 + 1 : Nat) : Int) := by omega
    have i0 : (0 : Int) < ((r.length + 1 + 1 : Nat) : Int) := by omega
    simp only [↓rA, rB, Int.reduceEq, Int.reduceLE, Int.reduceLT, Int.reduceToNat, Nat.reduceAdd, Nat.reduceEqDiff, Nat.reduceLT, Nat.reduceLeDiff, Nat.reduceMul, Nat.reduceSub, reduceCtorEq, tbLJ1, Tryd.results22, h3, e, hb, cE_eq a, cE_eq c, List.length_map, i1, i0]
    intro y1
    refine OkF_with _ [] (List.Perm.of_eq (List.append_nil _).symm) (putF { nd0 2 with expr := c, inn := [(p.2 : Int)] } s (vFacs c.hd.unit) (vEs c.args) _ (Le.refl _) (Le.refl _) (Le.list _ _ _) ⟨fc, by simp [big]⟩ p.1 (by omega) b1 hs1 [_, _, _]) ?_
    rintro v bs rs ⟨b2, rfl, _, rfl, hs2, rfl⟩
    have l2 := putM_len p.1 { nd0 2 with expr := c, inn := [(p.2 : Int)] }
    generalize putM p.1 { nd0 2 with expr := c, inn := [(p.2 : Int)] } = q at l2 hs2 ⊢
    try simp only
    simp only [↓rA, rB, Int.reduceEq, Int.reduceLE, Int.reduceLT, Int.reduceToNat, Nat.reduceAdd, Nat.reduceEqDiff, Nat.reduceLT, Nat.reduceLeDiff, Nat.reduceMul, Nat.reduceSub, reduceCtorEq, tbLJ1, Tryd.results22, h3, e, hb, cE_eq a, cE_eq c, List.length_map, i1, i0]
    intro y2
    refine OkF_with _ [] (List.Perm.of_eq (List.append_nil _).symm) (putF { nd0 3 with expr := a, inn := [(q.2 : Int)] } s (vFacs a.hd.unit) (vEs a.args) _ (Le.refl _) (Le.refl _) (Le.list _ _ _) ⟨fa, by simp [big]⟩ q.1 (by omega) b2 hs2 [_, _, _]) ?_
    rintro v bs rs ⟨b3', rfl, _, rfl, hs3, rfl⟩
    have l3 := putM_len q.1 { nd0 3 with expr := a, inn := [(q.2 : Int)] }
    generalize putM q.1 { nd0 3 with expr := a, inn := [(q.2 : Int)] } = t at l3 hs3 ⊢
    try simp only
    simp only [↓rA, rB, Int.reduceEq, Int.reduceLE, Int.reduceLT, Int.reduceToNat, Nat.reduceAdd, Nat.reduceEqDiff, Nat.reduceLT, Nat.reduceLeDiff, Nat.reduceMul, Nat.reduceSub, reduceCtorEq, tbLJ1, Tryd.results22, h3, e, hb, cE_eq a, cE_eq c, List.length_map, i1, i0]
    intro y3
    refine OkF_with _ [] (List.Perm.of_eq (List.append_nil _).symm) (putF { nd0 4 with op := hd.op, param := hd.param, wk := hd.wk, ws := hd.ws, inn := [(t.2 : Int)] } s nilS nilS _ (Le.nil 2) (Le.nil 12) (Le.list _ _ _) ⟨fit0, by simp [big]⟩ t.1 (by omega) b3' hs3 [_, _, _]) ?_
    rintro v bs rs ⟨b4, rfl, _, rfl, hs4, rfl⟩
    generalize putM t.1 { nd0 4 with op := hd.op, param := hd.param, wk := hd.wk, ws := hd.ws, inn := [(t.2 : Int)] } = z at hs4 ⊢
    simp only [↓rA, rB, Int.reduceEq, Int.reduceLE, Int.reduceLT, Int.reduceToNat, Nat.reduceAdd, Nat.reduceEqDiff, Nat.reduceLT, Nat.reduceLeDiff, Nat.reduceMul, Nat.reduceSub, reduceCtorEq, tbLJ1, Tryd.results22, h3, e, hb]
    exact ⟨_, _, [], Le.refl _, List.Sublist.cons _ (List.Sublist.refl _), List.nil_sublist _, rfl, ⟨b4, rfl, hs4⟩, rfl⟩
  · have hop : lowE L (.mk hd l) = putM (lowEs L l).1 { ownM hd l with inn := (lowEs L l).2 } := lowE_op L hd l e
    rw [hop]
    rw [sizeE_mk] at hL
    simp only [↓rA, rB, Int.reduceEq, Int.reduceLE, Int.reduceLT, Int.reduceToNat, Nat.reduceAdd, Nat.reduceEqDiff, Nat.reduceLT, Nat.reduceLeDiff, Nat.reduceMul, Nat.reduceSub, reduceCtorEq, tbLJ1, Tryd.results22, h3, e, hb]
    refine fun b8 h8 => ?_; replace h8 := newb h8; try simp only [Nb] at h8
    simp only [↓EX_end, ↓EX_seq, ↓EX_skip, ↓EX_label, ↓EX_blk, ↓EX_scope, ↓EX_sc, ↓EX_stop, ↓EX_exit, ↓EX_ret, ↓EX_cond, ↓EX_region, ↓EX_draw, ↓EX_loopleaf, ↓EX_rangeleaf, ↓XI_end, ↓XI_code, ↓XI_ops, ↓XI_stop, ↓XI_sc, ↓XI_same, ↓XI_other, ↓EX_ops_nil, ↓EX_plain, ↓EX_guard, ↓EX_dplain, ↓EX_dguard, ↓EX_gsoft, ↓EX_gsoftg, ↓EX_g_alloc, ↓EX_g_box, ↓EX_g_store, ↓EX_g_append, ↓EX_g_copy, ↓EX_g_call, ↓callR_func, ↓EX_x_call, ↓EX_x_buildSlice, ↓callX_func, ↓callX_yield, ↓EX_h_makeMap, ↓EX_h_lookup, ↓EX_h_mapUpdate, ↓ST_makeMap, ↓ST_lookup, ↓ST_mapUpdate, ↓ST_range, ↓ST_next, ↓ST_entry, ↓makeMapK_eq, ↓makeMapK_eqr, ↓lookK_eq, ↓lookD_nil, ↓lookD_nil', ↓lookD_box, ↓lookD_box', ↓updK_eq, ↓updD_box, ↓rangeK_eq, ↓rangeD_box, ↓nextK_it, ↓entryK_it, ↓ST_move, ↓ST_assign, ↓ST_pick, ↓ST_load, ↓ST_fieldAddr, ↓ST_field, ↓ST_indexAddr, ↓ST_index, ↓ST_binOp, ↓ST_unOp, ↓ST_convert, ↓ST_dconvert, ↓ST_gconvert, ↓ST_extract, ↓ST_slice, ↓ST_build, ↓ST_nil, ↓ST_len, ↓ST_max, ↓ST_min, ↓ST_call, ↓ST_dcall, ↓ST_gcall, ↓ST_makeFunc, ↓ST_alloc, ↓ST_box, ↓ST_store, ↓ST_buildSlice, ↓ST_dbuildSlice, ↓ST_append, ↓ST_copy, ↓ST_clear, ↓ST_makeSlice, ↓ST_cap, ↓EX_h_alloc, ↓EX_h_box, ↓EX_h_store, ↓EX_h_append, ↓EX_h_makeSlice, ↓EX_h_copy, ↓loadK_eq, ↓partK_eq, ↓fieldAddrK_eq, ↓fieldK_eq, ↓idxAddrD_slice, ↓idxAddrD_array, ↓idxAddrK_eq, ↓idxD_string, ↓idxD_array, ↓idxK_eq, ↓convD_int, ↓convD_string, ↓convK_eq, ↓convE_int, ↓convE_string, ↓convE_bytes, ↓convB_eq, ↓bytesD_nil, ↓bytesD_box, ↓bytesD_list, ↓lenD_string, ↓lenD_slice, ↓lenK_eq, ↓sliceD_string, ↓sliceD_slice, ↓sliceD_slice3, ↓sliceK_eq, ↓buildK_eq, ↓funcK_eq, ↓loadD_agg, ↓loadD_one, ↓partD_agg, ↓partD_one, ↓allocK_eq, ↓boxK_eq, ↓storeK_eq, ↓buildSliceK_eq, ↓buildAny_zero, ↓buildAny_cons, ↓buildSliceD_eq, ↓appendK_eq, ↓appSK_eq, ↓capK_eq, ↓srcK_eq, ↓appMK_eq, ↓appAK_eq, ↓copyK_eq, ↓clearK_eq, ↓AllV_eq, ↓retQ_ret, ↓retQ_normal, ↓retK, ↓resV_nil, ↓resV_tmp, ↓resV_cell, natPos, td1, td2, td3, keep_σ, keep_boxes, keep_rows, nilRow_same, nilRow_ne, nilRow_boxes, nilRow_rows, onVal_eq, onB_t, onB_f, nat0, dropB_σ, dropB_boxes, dropB_rows, onMapT_some, onM_some, onI_some, onFind_some, onFind_none, mapOf_map, getM_same, getM_other, getI_same, getI_other, setX_same, setX_other, valV_agg, valV_str, valV_int, keyV_lit, keyV_agg, keyS_agg, keyS_str, keyS_int, addB_σ, addB_boxes, addB_rows, onMode_0, onMode_1, onMode_2, onMode_3, onMode_4, modeOf_nil, modeOf_cons, ncall, Todo_eq, put_eq, put_ne, put_none, put_boxes, put_rows, addBox_σ, addBox_boxes, addBox_rows, addRow_σ, addRow_boxes, addRow_rows, setBoxes_σ, setBoxes_boxes, setBoxes_rows, setRows_σ, setRows_boxes, setRows_rows, S0_σ, S0_boxes, S0_rows, ev_tmp, ev_const, ev_global, gvL_nil, gvL_cons, globs_is, ev_func, guardV_eq, getB_same, getB_other, setB_same, setB_other, packV, soft_move, soft_assign, soft_pick, soft_load, soft_fieldAddr, soft_field, soft_indexAddr, soft_index, soft_binOp, soft_unOp, soft_convert, soft_extract, soft_slice, soft_build, soft_nil, soft_buildSlice, soft_makeFunc, soft_callv, soft_len, soft_cap, soft_max, soft_min, onSome_some, onInt_int, onStr_str, onAgg_agg, onTup_tup, onHead_cons, onBool_bool, onGuard_tt, onGuard_ft, onGuard_tf, onGuard_ff, onGuard_skip, onCond_t, onCond_f, onL_list, onL_nil, onS_list, onS_nil, onS_box, capD_slice, bnd_none, bnd_int, shiftP_ref, shiftP_ptr, atP_ref, atP_ptr, posK_succ, binK_int, binK_str, binK_bool, boolOf_bool, binK_nil, binK_lnil, notNil_some, notNil_none, nilQ_eq, binK_agg, EqK_eql', EqK_neq', eqTB, litB, litV, fitL, fit, veqL, veq, unK_lit, nilK_ptr, nilK_ref, nilK_func, maxK_max, maxK_min, onPtr_ptr, sliceOf_slice, appD_nil, appD_own, srcD_list, srcD_nil, srcD_box, srcD_str, appMD_box, appAD_nil, appAD_box, copyD_nil, copyD_box, clrD_nil, clrD_box, makeSliceK_int, appendAny_own, appendAny_ownN, appendAny_ownS, appendAny_nil, appendAny_zeros, appendAny_list, appendAny_slice, appendAny_str, If2_t, If2_f, takeRF_single, callE_func, callE_yield, callK_func, And2_true, sbin, sun, nilB, cellsV, oneB, okC, vals, fillV, partsE, Int.le_refl, Nat.sub_zero, Nat.zero_le, Nat.le_refl, eq_self, and_true, true_and, and_self, if_true, if_false, false_and, and_false, or_false, false_or, or_true, true_or, not_true_eq_false, not_false_eq_true, decide_true, decide_false, decide_eq_true_eq, Option.some.injEq, reduceCtorEq, Bool.false_eq_true, ne_eq, List.getD_cons_zero, List.getD_cons_succ, List.getD_nil, List.getElem?_cons_zero, List.getElem?_cons_succ, List.getElem?_nil, Option.bind_some, Option.bind_none, Option.map_some, Option.map_none, Option.isSome_some, Option.isSome_none, Option.isNone_some, Option.isNone_none, List.map_cons, List.map_nil, List.take_succ_cons, List.take_zero, List.take_nil, List.drop_succ_cons, List.drop_zero, List.drop_nil, List.length_cons, List.length_nil, List.cons_append, List.nil_append, List.append_nil, List.filter_nil, List.filter_cons, List.any_nil, List.any_cons, List.all_nil, List.all_cons, List.toList_toArray, Nat.add_zero, Nat.zero_add, Bool.not_true, Bool.not_false, Bool.true_and, Bool.and_true, Bool.or_false, Bool.false_or, Bool.and_false, Bool.false_and, Bool.or_true, Bool.true_or, implies_true, Nat.reduceLT, Nat.reduceLeDiff, Nat.reduceEqDiff, Nat.reduceAdd, Nat.reduceSub, Nat.reduceMul, Int.reduceToNat, Int.reduceLE, Int.reduceLT, Int.reduceEq, Int.toNat_natCast, Int.natCast_nonneg, tbLJ1, Tryd.results22, h3, h8, e, hb]
    refine EX_cut (fun S => ∃ u a, Le u (vFacs (ownM hd l).expr.hd.unit) ∧ Le a (vEs (ownM hd l).expr.args) ∧ S.boxes = (b8, .c (cNu (ownM hd l) u a nilS)) :: (b3, .c (cH hd (vEs l))) :: (fr b5 b6 s ++ bs0) ∧ S.rows = [] ∧ S.σ 1 = ptr b5 ∧ S.σ 2 = ptr b6 ∧ S.σ 3 = ptr b3 ∧ S.σ 8 = ptr b8) ?_ ?_
    · by_cases e1 : hd.kind = 1
      · have hn : ownM hd l = { nd0 5 with val := hd.val, expr := .mk hd l } := by simp [ownM, e1]
        rw [hn]
        simp only [↓rA, rB, Int.reduceEq, Int.reduceLE, Int.reduceLT, Int.reduceToNat, Nat.reduceAdd, Nat.reduceEqDiff, Nat.reduceLT, Nat.reduceLeDiff, Nat.reduceMul, Nat.reduceSub, reduceCtorEq, tbLJ1, Tryd.results22, h3, h8, e1]
        exact ⟨_, _, Le.refl _, Le.refl _, by rw [← e1]; rfl⟩
      by_cases e3 : hd.kind = 3
      · have hn : ownM hd l = { nd0 6 with name := hd.name } := by simp [ownM, e3]
        rw [hn]
        simp only [↓rA, rB, Int.reduceEq, Int.reduceLE, Int.reduceLT, Int.reduceToNat, Nat.reduceAdd, Nat.reduceEqDiff, Nat.reduceLT, Nat.reduceLeDiff, Nat.reduceMul, Nat.reduceSub, reduceCtorEq, tbLJ1, Tryd.results22, h3, h8, e3]
        exact ⟨_, _, Le.nil 2, Le.nil 12, rfl⟩
      by_cases e4 : hd.kind = 4
      · have hn : ownM hd l = { nd0 7 with name := hd.name } := by simp [ownM, e4]
        rw [hn]
        simp only [↓rA, rB, Int.reduceEq, Int.reduceLE, Int.reduceLT, Int.reduceToNat, Nat.reduceAdd, Nat.reduceEqDiff, Nat.reduceLT, Nat.reduceLeDiff, Nat.reduceMul, Nat.reduceSub, reduceCtorEq, tbLJ1, Tryd.results22, h3, h8, e4]
        exact ⟨_, _, Le.nil 2, Le.nil 12, rfl⟩
      by_cases e8 : hd.kind = 8
      · have hn : ownM hd l = { nd0 8 with op := sIf } := by simp [ownM, e8]
        rw [hn]
        simp only [↓rA, rB, Int.reduceEq, Int.reduceLE, Int.reduceLT, Int.reduceToNat, Nat.reduceAdd, Nat.reduceEqDiff, Nat.reduceLT, Nat.reduceLeDiff, Nat.reduceMul, Nat.reduceSub, reduceCtorEq, tbLJ1, Tryd.results22, h3, h8, e8]
        exact ⟨_, _, Le.nil 2, Le.nil 12, rfl⟩
      by_cases e9 : hd.kind = 9
      · have hn : ownM hd l = { nd0 8 with op := sDefault } := by simp [ownM, e9]
        rw [hn]
        simp only [↓rA, rB, Int.reduceEq, Int.reduceLE, Int.reduceLT, Int.reduceToNat, Nat.reduceAdd, Nat.reduceEqDiff, Nat.reduceLT, Nat.reduceLeDiff, Nat.reduceMul, Nat.reduceSub, reduceCtorEq, tbLJ1, Tryd.results22, h3, h8, e9]
        exact ⟨_, _, Le.nil 2, Le.nil 12, rfl⟩
      have hn : ownM hd l = { nd0 8 with op := hd.op } := by simp [ownM, e1, e3, e4, e8, e9]
      rw [hn]
      simp only [↓rA, rB, Int.reduceEq, Int.reduceLE, Int.reduceLT, Int.reduceToNat, Nat.reduceAdd, Nat.reduceEqDiff, Nat.reduceLT, Nat.reduceLeDiff, Nat.reduceMul, Nat.reduceSub, reduceCtorEq, tbLJ1, Tryd.results22, h3, h8, e1, e3, e4, e8, e9]
      exact ⟨_, _, Le.nil 2, Le.nil 12, rfl⟩
    rintro S ⟨u, a, hlu, hla, gb, gr, g1, g2, g3, g8⟩
    have fo : Fit (ownM hd l).expr := by
      unfold ownM
      repeat' split
      all_goals first | exact hf | exact fit0
    generalize hno : ownM hd l = no at hlu hla gb fo ⊢
    simp only [↓rA, rB, Int.reduceEq, Int.reduceLE, Int.reduceLT, Int.reduceToNat, Nat.reduceAdd, Nat.reduceEqDiff, Nat.reduceLT, Nat.reduceLeDiff, Nat.reduceMul, Nat.reduceSub, reduceCtorEq, tbLJ1, Tryd.results22, gb, gr, g1, g2, g3, g8, h3, h8]
    refine EX_nilB (cs' := cNu no u a (.list (some nilv) 1 [])) (k := 1) (e := 3) [] ((b3, .c (cH hd (vEs l))) :: (fr b5 b6 s ++ bs0)) (by simp only [↓rA, rB, Int.reduceEq, Int.reduceLE, Int.reduceLT, Int.reduceToNat, Nat.reduceAdd, Nat.reduceEqDiff, Nat.reduceLT, Nat.reduceLeDiff, Nat.reduceMul, Nat.reduceSub, reduceCtorEq, tbLJ1, Tryd.results22, gb, gr, g1, g2, g3, g8, h3, h8]; try rfl) (leNi no u a) (by decide) ?_
    refine EX_forS Ty.mixed (by kernel_rfl) l.length (fun i S => ∃ y bs1, S.boxes = (b8, .c (cNu no u a (.list (some y) 1 ((lowEs L (l.take i)).2.map fun k => [vint k])))) :: (b3, .c (cH hd (vEs l))) :: (fr b5 b6 s ++ bs1) ∧ Sh s (lowEs L (l.take i)).1 bs1 ∧ S.rows = [⟨y, 1, 3⟩] ∧ S.σ 1 = ptr b5 ∧ S.σ 2 = ptr b6 ∧ S.σ 3 = ptr b3 ∧ S.σ 8 = ptr b8 ∧ S.σ 76 = vEs l ∧ S.σ 77 = vint l.length ∧ S.σ 78 = vint i) ⟨_, _, List.Sublist.refl _, List.Sublist.refl _, ?_⟩ (fun i S hi ⟨y, bs1, gb, hs1, gr, g1, g2, g3, g8, g76, g77, g78⟩ => ?_) (fun S ⟨y, bs1, gb, hs1, gr, g1, g2, g3, g8, g76, g77, g78⟩ => ?_)
    · simp only [↓rA, rB, Int.reduceEq, Int.reduceLE, Int.reduceLT, Int.reduceToNat, Nat.reduceAdd, Nat.reduceEqDiff, Nat.reduceLT, Nat.reduceLeDiff, Nat.reduceMul, Nat.reduceSub, reduceCtorEq, tbLJ1, Tryd.results22, gb, gr, g1, g2, g3, g8, h3, h8, List.length_map]
      exact ⟨nilv, bs0, rfl, hs, rfl⟩
    · have hwi := wrap_succ (i := i) (N := l.length) hi (by omega)
      have hx := List.getElem_mem hi
      simp only [↓rA, rB, Int.reduceEq, Int.reduceLE, Int.reduceLT, Int.reduceToNat, Nat.reduceAdd, Nat.reduceEqDiff, Nat.reduceLT, Nat.reduceLeDiff, Nat.reduceMul, Nat.reduceSub, reduceCtorEq, tbLJ1, Tryd.results22, gb, gr, g1, g2, g3, g8, g76, g77, g78, h3, h8, hb, Int.ofNat_lt, hi, List.length_map, getD_map _ _ _ hi, cE_eq]
      refine fun b10 h10 => ?_; replace h10 := newb h10; try simp only [Nb] at h10
      simp only [↓rA, rB, Int.reduceEq, Int.reduceLE, Int.reduceLT, Int.reduceToNat, Nat.reduceAdd, Nat.reduceEqDiff, Nat.reduceLT, Nat.reduceLeDiff, Nat.reduceMul, Nat.reduceSub, reduceCtorEq, tbLJ1, Tryd.results22, gb, gr, g1, g2, g3, g8, g76, g77, g78, h3, h8, hb, h10, Int.ofNat_lt, hi, List.length_map, getD_map _ _ _ hi, onB_t]
      have hn : (b8 ≠ b10 ∧ b10 ≠ b8) ∧ (b3 ≠ b10 ∧ b10 ≠ b3) ∧ (b6 ≠ b10 ∧ b10 ≠ b6) ∧ (b5 ≠ b10 ∧ b10 ≠ b5) ∧ (b3 ≠ b8 ∧ b8 ≠ b3) ∧ (b6 ≠ b8 ∧ b8 ≠ b6) ∧ (b5 ≠ b8 ∧ b8 ≠ b5) ∧ (b6 ≠ b3 ∧ b3 ≠ b6) ∧ (b5 ≠ b3 ∧ b3 ≠ b5) ∧ (b5 ≠ b6 ∧ b6 ≠ b5) :=
        ⟨h10.1, h10.2.1, h10.2.2.1, h10.2.2.2.1, h8.1, h8.2.1, h8.2.2.1, h3.1, h3.2.1, hb⟩
      have hga : ∀ z ∈ l, Agg2 z := by cases hg with | mk _ _ _ h => exact h
      have hlen : (lowEs L (l.take i)).1.length + 4 * sizeE l[i] ≤ 1000000 := by
        have h1 := lowEs_len (l.take i) L
        have h2 : sizeEs (l.take (i + 1)) ≤ sizeEs l := by
          conv => rhs; rw [← List.take_append_drop (i + 1) l]
          rw [sizeEs_append]; omega
        rw [List.take_succ_eq_append_getElem hi, sizeEs_append] at h2
        simp only [sizeEs] at h2
        omega
      have hlow : lowEs L (l.take (i + 1)) = ((lowE (lowEs L (l.take i)).1 l[i]).1, (lowEs L (l.take i)).2 ++ [((lowE (lowEs L (l.take i)).1 l[i]).2 : Int)]) := by
        rw [List.take_succ_eq_append_getElem hi, lowEs_append]; rfl
      rw [hlow]
      have hkl : ((lowEs L (l.take i)).2.length + 1) * 8 ≤ 140737488355328 := by
        rw [lowEs_ks, List.length_take]; omega
      generalize hLi : (lowEs L (l.take i)).1 = Li at *
      generalize hks : (lowEs L (l.take i)).2 = ks at *
      refine EX_invA Ty.mixed (by kernel_rfl) (by kernel_rfl) (In21 b3 b5 b6 b8 b10 s hd l l[i] no u a y ks Li (lowE Li l[i]) i) ?_ ?_ ?_
      · refine ⟨?_, ?_, ?_, ?_, ?_, ?_, ?_, ?_, (fun h => by cases h), (fun h => by cases h), (fun h => by cases h), (fun h => by cases h), (fun h => by cases h), .inl ⟨rfl, rfl, rfl, rfl, ?_, bs1, hs1, ?_⟩⟩ <;> first | exact rfl | simp only [↓rA, rB, Int.reduceEq, Int.reduceLE, Int.reduceLT, Int.reduceToNat, Nat.reduceAdd, Nat.reduceEqDiff, Nat.reduceLT, Nat.reduceLeDiff, Nat.reduceMul, Nat.reduceSub, reduceCtorEq, tbLJ1, Tryd.results22, gr, gb, g1, g2, g3, g8, g76, g77, g78]
      · clear gr gb g1 g2 g3 g8 g76 g77 g78
        intro D S j o ho hL he ⟨g1, g2, g3, g8, g10, g76, g77, g78, f0, f1, f2, f3, f7, hph⟩
        match j, ho with
        | 0, ho =>
          cases ho
          rcases hph with ⟨h4, h5, h6, hh8, gr, bs2, hsb, gb⟩ | ⟨h4, h5, h6, hh8, gr, g86, bs2, hsb, gb⟩ | ⟨y5, h4, h5, h6, hh8, gr, g87, bs2, hsb, gb⟩ | ⟨y6, rr, h4, h5, h6, hh8, h1, gr, g88, bs2, hsb, gb⟩ | ⟨y6, rr, h4, h5, h6, hh8, h1, gr, bs2, hsb, gb⟩
          · simp only [↓rA, rB, Int.reduceEq, Int.reduceLE, Int.reduceLT, Int.reduceToNat, Nat.reduceAdd, Nat.reduceEqDiff, Nat.reduceLT, Nat.reduceLeDiff, Nat.reduceMul, Nat.reduceSub, reduceCtorEq, tbLJ1, Tryd.results22, gr, gb, g1, g2, g3, g8, g10, hn]
            exact ⟨g1, g2, g3, g8, g10, g76, g77, g78, fun _ => rfl, f1, f2, f3, f7, (.inl (⟨h4, h5, h6, hh8, gr, bs2, hsb, gb⟩))⟩
          · simp only [↓rA, rB, Int.reduceEq, Int.reduceLE, Int.reduceLT, Int.reduceToNat, Nat.reduceAdd, Nat.reduceEqDiff, Nat.reduceLT, Nat.reduceLeDiff, Nat.reduceMul, Nat.reduceSub, reduceCtorEq, tbLJ1, Tryd.results22, gr, gb, g1, g2, g3, g8, g10, hn]
            exact ⟨g1, g2, g3, g8, g10, g76, g77, g78, fun _ => rfl, f1, f2, f3, f7, (.inr (.inl (⟨h4, h5, h6, hh8, gr, g86, bs2, hsb, gb⟩)))⟩
          · simp only [↓rA, rB, Int.reduceEq, Int.reduceLE, Int.reduceLT, Int.reduceToNat, Nat.reduceAdd, Nat.reduceEqDiff, Nat.reduceLT, Nat.reduceLeDiff, Nat.reduceMul, Nat.reduceSub, reduceCtorEq, tbLJ1, Tryd.results22, gr, gb, g1, g2, g3, g8, g10, hn]
            exact ⟨g1, g2, g3, g8, g10, g76, g77, g78, fun _ => rfl, f1, f2, f3, f7, (.inr (.inr (.inl (⟨y5, h4, h5, h6, hh8, gr, g87, bs2, hsb, gb⟩))))⟩
          · simp only [↓rA, rB, Int.reduceEq, Int.reduceLE, Int.reduceLT, Int.reduceToNat, Nat.reduceAdd, Nat.reduceEqDiff, Nat.reduceLT, Nat.reduceLeDiff, Nat.reduceMul, Nat.reduceSub, reduceCtorEq, tbLJ1, Tryd.results22, gr, gb, g1, g2, g3, g8, g10, hn]
            exact ⟨g1, g2, g3, g8, g10, g76, g77, g78, fun _ => rfl, f1, f2, f3, f7, (.inr (.inr (.inr (.inl (⟨y6, rr, h4, h5, h6, hh8, h1, gr, g88, bs2, hsb, gb⟩)))))⟩
          · simp only [↓rA, rB, Int.reduceEq, Int.reduceLE, Int.reduceLT, Int.reduceToNat, Nat.reduceAdd, Nat.reduceEqDiff, Nat.reduceLT, Nat.reduceLeDiff, Nat.reduceMul, Nat.reduceSub, reduceCtorEq, tbLJ1, Tryd.results22, gr, gb, g1, g2, g3, g8, g10, hn]
            exact ⟨g1, g2, g3, g8, g10, g76, g77, g78, fun _ => rfl, f1, f2, f3, f7, (.inr (.inr (.inr (.inr ((⟨y6, rr, h4, h5, h6, hh8, h1, gr, bs2, hsb, gb⟩))))))⟩
        | 1, ho =>
          cases ho
          have q0 := f0 (he ⟨0, .data⟩ (by simp) rfl)
          rcases hph with ⟨h4, h5, h6, hh8, gr, bs2, hsb, gb⟩ | ⟨h4, h5, h6, hh8, gr, g86, bs2, hsb, gb⟩ | ⟨y5, h4, h5, h6, hh8, gr, g87, bs2, hsb, gb⟩ | ⟨y6, rr, h4, h5, h6, hh8, h1, gr, g88, bs2, hsb, gb⟩ | ⟨y6, rr, h4, h5, h6, hh8, h1, gr, bs2, hsb, gb⟩
          · simp only [↓rA, rB, Int.reduceEq, Int.reduceLE, Int.reduceLT, Int.reduceToNat, Nat.reduceAdd, Nat.reduceEqDiff, Nat.reduceLT, Nat.reduceLeDiff, Nat.reduceMul, Nat.reduceSub, reduceCtorEq, tbLJ1, Tryd.results22, gr, gb, g1, g2, g3, g8, g10, hn, q0]
            exact ⟨g1, g2, g3, g8, g10, g76, g77, g78, f0, fun _ => rfl, f2, f3, f7, (.inl (⟨h4, h5, h6, hh8, gr, bs2, hsb, gb⟩))⟩
          · simp only [↓rA, rB, Int.reduceEq, Int.reduceLE, Int.reduceLT, Int.reduceToNat, Nat.reduceAdd, Nat.reduceEqDiff, Nat.reduceLT, Nat.reduceLeDiff, Nat.reduceMul, Nat.reduceSub, reduceCtorEq, tbLJ1, Tryd.results22, gr, gb, g1, g2, g3, g8, g10, hn, q0]
            exact ⟨g1, g2, g3, g8, g10, g76, g77, g78, f0, fun _ => rfl, f2, f3, f7, (.inr (.inl (⟨h4, h5, h6, hh8, gr, g86, bs2, hsb, gb⟩)))⟩
          · simp only [↓rA, rB, Int.reduceEq, Int.reduceLE, Int.reduceLT, Int.reduceToNat, Nat.reduceAdd, Nat.reduceEqDiff, Nat.reduceLT, Nat.reduceLeDiff, Nat.reduceMul, Nat.reduceSub, reduceCtorEq, tbLJ1, Tryd.results22, gr, gb, g1, g2, g3, g8, g10, hn, q0]
            exact ⟨g1, g2, g3, g8, g10, g76, g77, g78, f0, fun _ => rfl, f2, f3, f7, (.inr (.inr (.inl (⟨y5, h4, h5, h6, hh8, gr, g87, bs2, hsb, gb⟩))))⟩
          · rw [h1] at hL; cases hL
          · rw [h1] at hL; cases hL
        | 2, ho =>
          cases ho
          rcases hph with ⟨h4, h5, h6, hh8, gr, bs2, hsb, gb⟩ | ⟨h4, h5, h6, hh8, gr, g86, bs2, hsb, gb⟩ | ⟨y5, h4, h5, h6, hh8, gr, g87, bs2, hsb, gb⟩ | ⟨y6, rr, h4, h5, h6, hh8, h1, gr, g88, bs2, hsb, gb⟩ | ⟨y6, rr, h4, h5, h6, hh8, h1, gr, bs2, hsb, gb⟩
          · simp only [↓rA, rB, Int.reduceEq, Int.reduceLE, Int.reduceLT, Int.reduceToNat, Nat.reduceAdd, Nat.reduceEqDiff, Nat.reduceLT, Nat.reduceLeDiff, Nat.reduceMul, Nat.reduceSub, reduceCtorEq, tbLJ1, Tryd.results22, gr, gb, g1, g2, g3, g8, g10, hn]
            exact ⟨g1, g2, g3, g8, g10, g76, g77, g78, f0, f1, fun _ => rfl, f3, f7, (.inl (⟨h4, h5, h6, hh8, gr, bs2, hsb, gb⟩))⟩
          · simp only [↓rA, rB, Int.reduceEq, Int.reduceLE, Int.reduceLT, Int.reduceToNat, Nat.reduceAdd, Nat.reduceEqDiff, Nat.reduceLT, Nat.reduceLeDiff, Nat.reduceMul, Nat.reduceSub, reduceCtorEq, tbLJ1, Tryd.results22, gr, gb, g1, g2, g3, g8, g10, hn]
            exact ⟨g1, g2, g3, g8, g10, g76, g77, g78, f0, f1, fun _ => rfl, f3, f7, (.inr (.inl (⟨h4, h5, h6, hh8, gr, g86, bs2, hsb, gb⟩)))⟩
          · simp only [↓rA, rB, Int.reduceEq, Int.reduceLE, Int.reduceLT, Int.reduceToNat, Nat.reduceAdd, Nat.reduceEqDiff, Nat.reduceLT, Nat.reduceLeDiff, Nat.reduceMul, Nat.reduceSub, reduceCtorEq, tbLJ1, Tryd.results22, gr, gb, g1, g2, g3, g8, g10, hn]
            exact ⟨g1, g2, g3, g8, g10, g76, g77, g78, f0, f1, fun _ => rfl, f3, f7, (.inr (.inr (.inl (⟨y5, h4, h5, h6, hh8, gr, g87, bs2, hsb, gb⟩))))⟩
          · simp only [↓rA, rB, Int.reduceEq, Int.reduceLE, Int.reduceLT, Int.reduceToNat, Nat.reduceAdd, Nat.reduceEqDiff, Nat.reduceLT, Nat.reduceLeDiff, Nat.reduceMul, Nat.reduceSub, reduceCtorEq, tbLJ1, Tryd.results22, gr, gb, g1, g2, g3, g8, g10, hn]
            exact ⟨g1, g2, g3, g8, g10, g76, g77, g78, f0, f1, fun _ => rfl, f3, f7, (.inr (.inr (.inr (.inl (⟨y6, rr, h4, h5, h6, hh8, h1, gr, g88, bs2, hsb, gb⟩)))))⟩
          · simp only [↓rA, rB, Int.reduceEq, Int.reduceLE, Int.reduceLT, Int.reduceToNat, Nat.reduceAdd, Nat.reduceEqDiff, Nat.reduceLT, Nat.reduceLeDiff, Nat.reduceMul, Nat.reduceSub, reduceCtorEq, tbLJ1, Tryd.results22, gr, gb, g1, g2, g3, g8, g10, hn]
            exact ⟨g1, g2, g3, g8, g10, g76, g77, g78, f0, f1, fun _ => rfl, f3, f7, (.inr (.inr (.inr (.inr ((⟨y6, rr, h4, h5, h6, hh8, h1, gr, bs2, hsb, gb⟩))))))⟩
        | 3, ho =>
          cases ho
          rcases hph with ⟨h4, h5, h6, hh8, gr, bs2, hsb, gb⟩ | ⟨h4, h5, h6, hh8, gr, g86, bs2, hsb, gb⟩ | ⟨y5, h4, h5, h6, hh8, gr, g87, bs2, hsb, gb⟩ | ⟨y6, rr, h4, h5, h6, hh8, h1, gr, g88, bs2, hsb, gb⟩ | ⟨y6, rr, h4, h5, h6, hh8, h1, gr, bs2, hsb, gb⟩
          · simp only [↓rA, rB, Int.reduceEq, Int.reduceLE, Int.reduceLT, Int.reduceToNat, Nat.reduceAdd, Nat.reduceEqDiff, Nat.reduceLT, Nat.reduceLeDiff, Nat.reduceMul, Nat.reduceSub, reduceCtorEq, tbLJ1, Tryd.results22, gr, gb, g1, g2, g3, g8, g10, hn]
            exact ⟨g1, g2, g3, g8, g10, g76, g77, g78, f0, f1, f2, fun _ => rfl, f7, (.inl (⟨h4, h5, h6, hh8, gr, bs2, hsb, gb⟩))⟩
          · simp only [↓rA, rB, Int.reduceEq, Int.reduceLE, Int.reduceLT, Int.reduceToNat, Nat.reduceAdd, Nat.reduceEqDiff, Nat.reduceLT, Nat.reduceLeDiff, Nat.reduceMul, Nat.reduceSub, reduceCtorEq, tbLJ1, Tryd.results22, gr, gb, g1, g2, g3, g8, g10, hn]
            exact ⟨g1, g2, g3, g8, g10, g76, g77, g78, f0, f1, f2, fun _ => rfl, f7, (.inr (.inl (⟨h4, h5, h6, hh8, gr, g86, bs2, hsb, gb⟩)))⟩
          · simp only [↓rA, rB, Int.reduceEq, Int.reduceLE, Int.reduceLT, Int.reduceToNat, Nat.reduceAdd, Nat.reduceEqDiff, Nat.reduceLT, Nat.reduceLeDiff, Nat.reduceMul, Nat.reduceSub, reduceCtorEq, tbLJ1, Tryd.results22, gr, gb, g1, g2, g3, g8, g10, hn]
            exact ⟨g1, g2, g3, g8, g10, g76, g77, g78, f0, f1, f2, fun _ => rfl, f7, (.inr (.inr (.inl (⟨y5, h4, h5, h6, hh8, gr, g87, bs2, hsb, gb⟩))))⟩
          · simp only [↓rA, rB, Int.reduceEq, Int.reduceLE, Int.reduceLT, Int.reduceToNat, Nat.reduceAdd, Nat.reduceEqDiff, Nat.reduceLT, Nat.reduceLeDiff, Nat.reduceMul, Nat.reduceSub, reduceCtorEq, tbLJ1, Tryd.results22, gr, gb, g1, g2, g3, g8, g10, hn]
            exact ⟨g1, g2, g3, g8, g10, g76, g77, g78, f0, f1, f2, fun _ => rfl, f7, (.inr (.inr (.inr (.inl (⟨y6, rr, h4, h5, h6, hh8, h1, gr, g88, bs2, hsb, gb⟩)))))⟩
          · simp only [↓rA, rB, Int.reduceEq, Int.reduceLE, Int.reduceLT, Int.reduceToNat, Nat.reduceAdd, Nat.reduceEqDiff, Nat.reduceLT, Nat.reduceLeDiff, Nat.reduceMul, Nat.reduceSub, reduceCtorEq, tbLJ1, Tryd.results22, gr, gb, g1, g2, g3, g8, g10, hn]
            exact ⟨g1, g2, g3, g8, g10, g76, g77, g78, f0, f1, f2, fun _ => rfl, f7, (.inr (.inr (.inr (.inr ((⟨y6, rr, h4, h5, h6, hh8, h1, gr, bs2, hsb, gb⟩))))))⟩
        | 4, ho =>
          cases ho
          have q2 := f2 (he ⟨2, .data⟩ (by simp) rfl)
          have q3 := f3 (he ⟨3, .data⟩ (by simp) rfl)
          rcases hph with ⟨h4, h5, h6, hh8, gr, bs2, hsb, gb⟩ | ⟨h4, h5, h6, hh8, gr, g86, bs2, hsb, gb⟩ | ⟨y5, h4, h5, h6, hh8, gr, g87, bs2, hsb, gb⟩ | ⟨y6, rr, h4, h5, h6, hh8, h1, gr, g88, bs2, hsb, gb⟩ | ⟨y6, rr, h4, h5, h6, hh8, h1, gr, bs2, hsb, gb⟩
          · have hc := ih l[i] hx (ha _ hx) (hga _ hx) b5 b6 s hb Li bs2 hsb hlen
            rw [vE, cE_eq] at hc
            simp only [↓rA, rB, Int.reduceEq, Int.reduceLE, Int.reduceLT, Int.reduceToNat, Nat.reduceAdd, Nat.reduceEqDiff, Nat.reduceLT, Nat.reduceLeDiff, Nat.reduceMul, Nat.reduceSub, reduceCtorEq, tbLJ1, Tryd.results22, gr, gb, g1, g2, g3, g8, g10, hn, q2, q3, onB_t]
            refine OkF_with _ [] (List.Perm.of_eq (List.append_nil _).symm) (Ok.frame [_, _, _] hc) ?_
            rintro v bs rs ⟨b1, rfl, _, rfl, ⟨bs3, rfl, hs3⟩, rfl⟩
            simp only [↓rA, rB, Int.reduceEq, Int.reduceLE, Int.reduceLT, Int.reduceToNat, Nat.reduceAdd, Nat.reduceEqDiff, Nat.reduceLT, Nat.reduceLeDiff, Nat.reduceMul, Nat.reduceSub, reduceCtorEq, tbLJ1, Tryd.results22, gr, gb, g1, g2, g3, g8, g10, hn]
            exact ⟨g1, g2, g3, g8, g10, g76, g77, g78, f0, f1, f2, f3, f7, (.inr (.inl (⟨rfl, h5, h6, hh8, rfl, rfl, bs3, hs3, rfl⟩)))⟩
          all_goals (rw [h4] at hL; cases hL)
        | 5, ho =>
          cases ho
          have q4 := he ⟨4, .data⟩ (by simp) rfl
          replace q4 : D 4 = true := q4
          rcases hph with ⟨h4, h5, h6, hh8, gr, bs2, hsb, gb⟩ | ⟨h4, h5, h6, hh8, gr, g86, bs2, hsb, gb⟩ | ⟨y5, h4, h5, h6, hh8, gr, g87, bs2, hsb, gb⟩ | ⟨y6, rr, h4, h5, h6, hh8, h1, gr, g88, bs2, hsb, gb⟩ | ⟨y6, rr, h4, h5, h6, hh8, h1, gr, bs2, hsb, gb⟩
          · rw [q4] at h4; cases h4
          · simp only [↓rA, rB, Int.reduceEq, Int.reduceLE, Int.reduceLT, Int.reduceToNat, Nat.reduceAdd, Nat.reduceEqDiff, Nat.reduceLT, Nat.reduceLeDiff, Nat.reduceMul, Nat.reduceSub, reduceCtorEq, tbLJ1, Tryd.results22, gr, gb, g1, g2, g3, g8, g10, hn, g86]
            exact fun y5 => ⟨g1, g2, g3, g8, g10, g76, g77, g78, f0, f1, f2, f3, f7, (.inr (.inr (.inl (⟨y5, h4, rfl, h6, hh8, (by show _ :: S.rows = _; rw [gr]), rfl, bs2, hsb, gb⟩))))⟩
          all_goals (rw [h5] at hL; cases hL)
        | 6, ho =>
          cases ho
          have q1 := he ⟨1, .data⟩ (by simp) rfl
          replace q1 : D 1 = true := q1
          have q5 := he ⟨5, .data⟩ (by simp) rfl
          replace q5 : D 5 = true := q5
          have q83 := f1 q1
          rcases hph with ⟨h4, h5, h6, hh8, gr, bs2, hsb, gb⟩ | ⟨h4, h5, h6, hh8, gr, g86, bs2, hsb, gb⟩ | ⟨y5, h4, h5, h6, hh8, gr, g87, bs2, hsb, gb⟩ | ⟨y6, rr, h4, h5, h6, hh8, h1, gr, g88, bs2, hsb, gb⟩ | ⟨y6, rr, h4, h5, h6, hh8, h1, gr, bs2, hsb, gb⟩
          · rw [q5] at h5; cases h5
          · rw [q5] at h5; cases h5
          · simp only [↓rA, rB, Int.reduceEq, Int.reduceLE, Int.reduceLT, Int.reduceToNat, Nat.reduceAdd, Nat.reduceEqDiff, Nat.reduceLT, Nat.reduceLeDiff, Nat.reduceMul, Nat.reduceSub, reduceCtorEq, tbLJ1, Tryd.results22, gr, gb, g1, g2, g3, g8, g10, hn, g87, q83, List.length_map]
            refine takeRF_2 ?_
            simp only [↓rA, rB, Int.reduceEq, Int.reduceLE, Int.reduceLT, Int.reduceToNat, Nat.reduceAdd, Nat.reduceEqDiff, Nat.reduceLT, Nat.reduceLeDiff, Nat.reduceMul, Nat.reduceSub, reduceCtorEq, tbLJ1, Tryd.results22, gr, gb, g1, g2, g3, g8, g10, hn, g87, q83, List.length_map, hkl]
            exact fun y6 => ⟨g1, g2, g3, g8, g10, g76, g77, g78, f0, f1, f2, f3, f7, (.inr (.inr (.inr (.inl (⟨y6, [rI y5], h4, h5, rfl, hh8, q1, rfl, rfl, bs2, hsb, gb⟩)))))⟩
          all_goals (rw [h6] at hL; cases hL)
        | 7, ho =>
          cases ho
          rcases hph with ⟨h4, h5, h6, hh8, gr, bs2, hsb, gb⟩ | ⟨h4, h5, h6, hh8, gr, g86, bs2, hsb, gb⟩ | ⟨y5, h4, h5, h6, hh8, gr, g87, bs2, hsb, gb⟩ | ⟨y6, rr, h4, h5, h6, hh8, h1, gr, g88, bs2, hsb, gb⟩ | ⟨y6, rr, h4, h5, h6, hh8, h1, gr, bs2, hsb, gb⟩
          · simp only [↓rA, rB, Int.reduceEq, Int.reduceLE, Int.reduceLT, Int.reduceToNat, Nat.reduceAdd, Nat.reduceEqDiff, Nat.reduceLT, Nat.reduceLeDiff, Nat.reduceMul, Nat.reduceSub, reduceCtorEq, tbLJ1, Tryd.results22, gr, gb, g1, g2, g3, g8, g10, hn]
            exact ⟨g1, g2, g3, g8, g10, g76, g77, g78, f0, f1, f2, f3, fun _ => rfl, (.inl (⟨h4, h5, h6, hh8, gr, bs2, hsb, gb⟩))⟩
          · simp only [↓rA, rB, Int.reduceEq, Int.reduceLE, Int.reduceLT, Int.reduceToNat, Nat.reduceAdd, Nat.reduceEqDiff, Nat.reduceLT, Nat.reduceLeDiff, Nat.reduceMul, Nat.reduceSub, reduceCtorEq, tbLJ1, Tryd.results22, gr, gb, g1, g2, g3, g8, g10, hn]
            exact ⟨g1, g2, g3, g8, g10, g76, g77, g78, f0, f1, f2, f3, fun _ => rfl, (.inr (.inl (⟨h4, h5, h6, hh8, gr, g86, bs2, hsb, gb⟩)))⟩
          · simp only [↓rA, rB, Int.reduceEq, Int.reduceLE, Int.reduceLT, Int.reduceToNat, Nat.reduceAdd, Nat.reduceEqDiff, Nat.reduceLT, Nat.reduceLeDiff, Nat.reduceMul, Nat.reduceSub, reduceCtorEq, tbLJ1, Tryd.results22, gr, gb, g1, g2, g3, g8, g10, hn]
            exact ⟨g1, g2, g3, g8, g10, g76, g77, g78, f0, f1, f2, f3, fun _ => rfl, (.inr (.inr (.inl (⟨y5, h4, h5, h6, hh8, gr, g87, bs2, hsb, gb⟩))))⟩
          · simp only [↓rA, rB, Int.reduceEq, Int.reduceLE, Int.reduceLT, Int.reduceToNat, Nat.reduceAdd, Nat.reduceEqDiff, Nat.reduceLT, Nat.reduceLeDiff, Nat.reduceMul, Nat.reduceSub, reduceCtorEq, tbLJ1, Tryd.results22, gr, gb, g1, g2, g3, g8, g10, hn]
            exact ⟨g1, g2, g3, g8, g10, g76, g77, g78, f0, f1, f2, f3, fun _ => rfl, (.inr (.inr (.inr (.inl (⟨y6, rr, h4, h5, h6, hh8, h1, gr, g88, bs2, hsb, gb⟩)))))⟩
          · simp only [↓rA, rB, Int.reduceEq, Int.reduceLE, Int.reduceLT, Int.reduceToNat, Nat.reduceAdd, Nat.reduceEqDiff, Nat.reduceLT, Nat.reduceLeDiff, Nat.reduceMul, Nat.reduceSub, reduceCtorEq, tbLJ1, Tryd.results22, gr, gb, g1, g2, g3, g8, g10, hn]
            exact ⟨g1, g2, g3, g8, g10, g76, g77, g78, f0, f1, f2, f3, fun _ => rfl, (.inr (.inr (.inr (.inr ((⟨y6, rr, h4, h5, h6, hh8, h1, gr, bs2, hsb, gb⟩))))))⟩
        | 8, ho =>
          cases ho
          have q6 := he ⟨6, .data⟩ (by simp) rfl
          replace q6 : D 6 = true := q6
          have q7 := f7 (he ⟨7, .data⟩ (by simp) rfl)
          rcases hph with ⟨h4, h5, h6, hh8, gr, bs2, hsb, gb⟩ | ⟨h4, h5, h6, hh8, gr, g86, bs2, hsb, gb⟩ | ⟨y5, h4, h5, h6, hh8, gr, g87, bs2, hsb, gb⟩ | ⟨y6, rr, h4, h5, h6, hh8, h1, gr, g88, bs2, hsb, gb⟩ | ⟨y6, rr, h4, h5, h6, hh8, h1, gr, bs2, hsb, gb⟩
          · rw [q6] at h6; cases h6
          · rw [q6] at h6; cases h6
          · rw [q6] at h6; cases h6
          · simp only [↓rA, rB, Int.reduceEq, Int.reduceLE, Int.reduceLT, Int.reduceToNat, Nat.reduceAdd, Nat.reduceEqDiff, Nat.reduceLT, Nat.reduceLeDiff, Nat.reduceMul, Nat.reduceSub, reduceCtorEq, tbLJ1, Tryd.results22, gr, gb, g1, g2, g3, g8, g10, hn, q7, g88]
            exact ⟨g1, g2, g3, g8, g10, g76, g77, g78, f0, f1, f2, f3, f7, (.inr (.inr (.inr (.inr ((⟨y6, rr, h4, h5, h6, rfl, h1, gr, bs2, hsb, rfl⟩))))))⟩
          · rw [hh8] at hL; cases hL
        | n + 9, ho => cases ho
      · clear gr gb g1 g2 g3 g8 g76 g77 g78
        intro D S hD ⟨g1, g2, g3, g8, g10, g76, g77, g78, f0, f1, f2, f3, f7, hph⟩
        replace hD : ∀ i, i < 9 → D i = true := hD
        have d5 := hD 5 (by decide)
        have d6 := hD 6 (by decide)
        have d8 := hD 8 (by decide)
        rcases hph with ⟨h4, h5, h6, hh8, gr, bs2, hsb, gb⟩ | ⟨h4, h5, h6, hh8, gr, g86, bs2, hsb, gb⟩ | ⟨y5, h4, h5, h6, hh8, gr, g87, bs2, hsb, gb⟩ | ⟨y6, rr, h4, h5, h6, hh8, h1, gr, g88, bs2, hsb, gb⟩ | ⟨y6, rr, h4, h5, h6, hh8, h1, gr, bs2, hsb, gb⟩
        · rw [d5] at h5; cases h5
        · rw [d5] at h5; cases h5
        · rw [d6] at h6; cases h6
        · rw [d8] at hh8; cases hh8
        · clear f0 f1 f2 f3 f7 hD
          simp only [↓rA, rB, Int.reduceEq, Int.reduceLE, Int.reduceLT, Int.reduceToNat, Nat.reduceAdd, Nat.reduceEqDiff, Nat.reduceLT, Nat.reduceLeDiff, Nat.reduceMul, Nat.reduceSub, reduceCtorEq, tbLJ1, Tryd.results22, gr, gb, g1, g2, g3, g8, g10, g76, g77, g78, hn, hwi]
          refine ⟨(b8, .c (cNu no u a (.list (some y6) 1 ((ks.map fun k => [vint k]) ++ [[vint (lowE Li l[i]).2]])))) :: (b3, .c (cH hd (vEs l))) :: (fr b5 b6 s ++ bs2), [rI y6], (by show List.Sublist _ S.boxes; rw [gb]; exact List.Sublist.cons _ (List.Sublist.refl _)), (by show List.Sublist _ S.rows; rw [gr]; exact List.Sublist.cons_cons _ (List.nil_sublist _)), y6, bs2, ?_, hsb, ?_⟩
          · rw [List.map_append]; rfl
          · simp only [↓rA, rB, Int.reduceEq, Int.reduceLE, Int.reduceLT, Int.reduceToNat, Nat.reduceAdd, Nat.reduceEqDiff, Nat.reduceLT, Nat.reduceLeDiff, Nat.reduceMul, Nat.reduceSub, reduceCtorEq, tbLJ1, Tryd.results22, g1, g2, g3, g8, g76, g77, g78, hwi]
    · have hll := lowEs_len l L
      have hks2 := lowEs_ks l L
      rw [List.take_of_length_le (Nat.le_refl _)] at hs1 gb
      generalize lowEs L l = q at *
      simp only [↓rA, rB, Int.reduceEq, Int.reduceLE, Int.reduceLT, Int.reduceToNat, Nat.reduceAdd, Nat.reduceEqDiff, Nat.reduceLT, Nat.reduceLeDiff, Nat.reduceMul, Nat.reduceSub, reduceCtorEq, tbLJ1, Tryd.results22, gr, gb, g1, g2, g3, g8, g76, g77, g78, h3, h8, hb, Int.ofNat_lt, Nat.lt_irrefl]
      have fin : FitN { no with inn := q.2 } := ⟨fo, by simp only; rw [hks2]; exact hl⟩
      refine OkF_with _ [] (List.Perm.of_eq (List.append_nil _).symm) (putF { no with inn := q.2 } s u a (.list (some y) 1 (q.2.map fun k => [vint k])) hlu hla (Le.list _ _ _) fin q.1 (by omega) bs1 hs1 [_, _, _, _]) ?_
      rintro v bs rs ⟨b1, rfl, _, rfl, hs4, rfl⟩
      generalize putM q.1 { no with inn := q.2 } = z at hs4 ⊢
      simp only [↓rA, rB, Int.reduceEq, Int.reduceLE, Int.reduceLT, Int.reduceToNat, Nat.reduceAdd, Nat.reduceEqDiff, Nat.reduceLT, Nat.reduceLeDiff, Nat.reduceMul, Nat.reduceSub, reduceCtorEq, tbLJ1, Tryd.results22, h3, hb]
      exact ⟨_, _, [], Le.refl _, List.Sublist.cons _ (List.Sublist.cons _ (List.Sublist.refl _)), List.nil_sublist _, rfl, ⟨b1, rfl, hs4⟩, rfl⟩
end Go.Proofs.YtphkmlogjgeipaaDoor

/- Contracts of lowering, part j: what a proper form says of size; lower.Graph. -/
set_option linter.unusedSimpArgs false
set_option maxRecDepth 100000
-- @call 22
namespace Go.Proofs.YtphkmlogjgeipaaDoor
open Go.VL Go.Ar Go.Lo Go.Proofs.YtphkmlogjgeipaaDoor

theorem manyH_le (k : Int) : manyH k ≤ 3 := by
  unfold manyH
  repeat' split
  all_goals omega
theorem proper_parts {h : Hd} {l : List E} {ins : Bool} (hp : properE (.mk h l) ins = true) : okHd h ins = true ∧ h = wantH h ∧ (l.length : Int) = manyH h.kind ∧ (∀ x ∈ l, properE x (ins || decide (h.kind = 5)) = true) ∧ countOk h l = true := by
  rw [properE_mk] at hp
  simp only [Bool.and_eq_true, decide_eq_true_eq] at hp
  exact ⟨hp.1.1.1.1, hp.1.1.1.2, hp.1.1.2, (properEs_all l _).1 hp.1.2, hp.2⟩
theorem proper_agg2 : ∀ (x : E) (ins : Bool), properE x ins = true → Agg2 x := by
  intro x
  induction x using E.ind with
  | h hd l ih =>
  intro ins hp
  obtain ⟨_, _, h3, h4, _⟩ := proper_parts hp
  refine .mk _ _ (fun hk => ?_) fun y hy => ih y hy _ (h4 y hy)
  rw [hk] at h3
  have : (l.length : Int) = 2 := h3
  omega
theorem sizeEs_le (m : Nat) (hm : 1 ≤ m) : ∀ l : List E, l.length ≤ 3 → (∀ x ∈ l, 2 * sizeE x + 1 ≤ m) → 2 * (1 + sizeEs l) + 1 ≤ 3 * m
  | [], _, _ => by simp only [sizeEs]; omega
  | [a], _, h => by have := h a (by simp); simp only [sizeEs]; omega
  | [a, b], _, h => by have := h a (by simp); have := h b (by simp); simp only [sizeEs]; omega
  | [a, b, c], _, h => by have := h a (by simp); have := h b (by simp); have := h c (by simp); simp only [sizeEs]; omega
  | _ :: _ :: _ :: _ :: _, h, _ => by simp at h
theorem proper_size : ∀ (x : E) (ins : Bool), properE x ins = true → 2 * sizeE x + 1 ≤ 3 ^ depthE x := by
  intro x
  induction x using E.ind with
  | h hd l ih =>
  intro ins hp
  obtain ⟨_, _, h3, h4, _⟩ := proper_parts hp
  have hl : l.length ≤ 3 := by have := manyH_le hd.kind; omega
  have := sizeEs_le (3 ^ depthEs l) (Nat.pos_of_ne_zero (by simp)) l hl fun x hx => Nat.le_trans (ih x hx _ (h4 x hx)) (Nat.pow_le_pow_right (by decide) (depthEs_mem hx))
  rw [sizeE_mk, depthE_mk, Nat.pow_succ]
  omega
theorem shape_parts {x : E} (h : shapeC x = 0) : sizeE x ≤ 64 ∧ depthE x ≤ 12 ∧ properE x false = true := by
  unfold shapeC at h
  split at h
  · cases h
  · rename_i h1
    split at h
    · cases h
    · rename_i h2
      split at h
      · rename_i h3
        have h4 := proper_size x false h3
        have h5 : 3 ^ depthE x ≤ 3 ^ 12 := Nat.pow_le_pow_right (by decide) (by omega)
        rw [show (3 : Nat) ^ 12 = 531441 by decide] at h5
        rw [wrap_id (by omega) (by omega)] at h1
        exact ⟨by omega, by omega, h3⟩
      · cases h
theorem leTup {l l' : List V} (h : LeL l l') : Le (.tup l) (.tup l') := by
  intro w I x hx
  simp only [V.rep] at hx ⊢
  obtain ⟨xs, e, hr⟩ := hx
  exact ⟨xs, e, h.reps hr⟩
theorem Ok.norows' {P f args bs0 Q Q'} (h : Ok P f args bs0 Q) (hq : ∀ v bs rs, Q v bs rs → ∃ v' bs' rs', Le v v' ∧ bs'.Sublist bs ∧ rs'.Sublist rs ∧ Q' v' bs' rs') : Ok P f args bs0 Q' := by
  intro w I xs hr hH
  refine (h w I xs hr hH).mono fun e w' ⟨x, v, bs', rs', I', he, hv, hk, hh, hn, hQ⟩ => ?_
  obtain ⟨v2, bs2, rs2, hl, h1, h2, hQ'⟩ := hq _ _ _ hQ
  exact ⟨x, v2, bs2, rs2, I', he, hl w' I' x hv, hk, hh.sub h1 h2, fun b hb => hn b ((List.Sublist.append (h1.map _) (h2.filterMap _)).subset hb), hQ'⟩
/-- The nodes of an expression's graph. -/
noncomputable def graphC (x : E) : List Nd := if shapeC x = 0 then (lowE [] x).1 else []
set_option linter.defProp false in
def tbLK0 := (And.intro (And.intro (And.intro (And.intro (And.intro (And.intro (And.intro Ty.sz3 Ty.by3) (And.intro Ty.ag3 Ty.zr3)) (And.intro (And.intro Ty.un3 Ty.sz4) (And.intro Ty.by4 Ty.ag4))) (And.intro (And.intro (And.intro Ty.zr4 Ty.un4) (And.intro Ty.sz9 Ty.by9)) (And.intro (And.intro Ty.ag9 Ty.zr9) (And.intro Ty.un9 (And.intro Ty.sz23 Ty.by23))))) (And.intro (And.intro (And.intro (And.intro Ty.ag23 Ty.zr23) (And.intro Ty.fl23_0 Ty.pl23_0)) (And.intro (And.intro Ty.fl23_1 Ty.pl23_1) (And.intro Ty.fl23_2 (And.intro Ty.pl23_2 Ty.sz24)))) (And.intro (And.intro (And.intro Ty.by24 Ty.ag24) (And.intro Ty.zr24 Ty.un24)) (And.intro (And.intro Ty.sz26 Ty.by26) (And.intro Ty.ag26 (And.intro Ty.zr26 Ty.fl26_0)))))) (And.intro (And.intro (And.intro (And.intro (And.intro Ty.pl26_0 Ty.fl26_1) (And.intro Ty.pl26_1 Ty.sz27)) (And.intro (And.intro Ty.by27 Ty.ag27) (And.intro Ty.zr27 (And.intro Ty.un27 Ty.sz29)))) (And.intro (And.intro (And.intro Ty.by29 Ty.ag29) (And.intro Ty.zr29 Ty.fl29_0)) (And.intro (And.intro Ty.pl29_0 Ty.fl29_1) (And.intro Ty.pl29_1 (And.intro Ty.fl29_2 Ty.pl29_2))))) (And.intro (And.intro (And.intro (And.intro Ty.fl29_3 Ty.pl29_3) (And.intro Ty.fl29_4 Ty.pl29_4)) (And.intro (And.intro Ty.fl29_5 Ty.pl29_5) (And.intro Ty.fl29_6 (And.intro Ty.pl29_6 Ty.fl29_7)))) (And.intro (And.intro (And.intro Ty.pl29_7 Ty.fl29_8) (And.intro Ty.pl29_8 Ty.sz31)) (And.intro (And.intro Ty.by31 Ty.ag31) (And.intro Ty.zr31 (And.intro Ty.un31 Ty.sz33))))))) (And.intro (And.intro (And.intro (And.intro (And.intro (And.intro Ty.by33 Ty.ag33) (And.intro Ty.zr33 Ty.fl33_0)) (And.intro (And.intro Ty.pl33_0 Ty.sz34) (And.intro Ty.by34 (And.intro Ty.ag34 Ty.zr34)))) (And.intro (And.intro (And.intro Ty.un34 Ty.sz40) (And.intro Ty.by40 Ty.ag40)) (And.intro (And.intro Ty.zr40 Ty.sz41) (And.intro Ty.by41 (And.intro Ty.ag41 Ty.zr41))))) (And.intro (And.intro (And.intro (And.intro Ty.un41 Ty.sz43) (And.intro Ty.by43 Ty.ag43)) (And.intro (And.intro Ty.zr43 Ty.fl43_0) (And.intro Ty.pl43_0 (And.intro Ty.fl43_1 Ty.pl43_1)))) (And.intro (And.intro (And.intro Ty.fl43_2 Ty.pl43_2) (And.intro Ty.fl43_3 Ty.pl43_3)) (And.intro (And.intro Ty.fl43_4 Ty.pl43_4) (And.intro Ty.fl43_5 (And.intro Ty.pl43_5 Ty.fl43_6)))))) (And.intro (And.intro (And.intro (And.intro (And.intro Ty.pl43_6 Ty.fl43_7) (And.intro Ty.pl43_7 Ty.fl43_8)) (And.intro (And.intro Ty.pl43_8 Ty.sz71) (And.intro Ty.by71 (And.intro Ty.ag71 Ty.zr71)))) (And.intro (And.intro (And.intro Ty.un71 Ty.sz73) (And.intro Ty.by73 Ty.ag73)) (And.intro (And.intro Ty.zr73 Ty.fl73_0) (And.intro Ty.pl73_0 (And.intro Ty.fl73_1 Ty.pl73_1))))) (And.intro (And.intro (And.intro (And.intro Ty.sz74 Ty.by74) (And.intro Ty.ag74 Ty.zr74)) (And.intro (And.intro Ty.sz105 Ty.by105) (And.intro Ty.ag105 (And.intro Ty.zr105 Ty.fl105_0)))) (And.intro (And.intro (And.intro Ty.pl105_0 Ty.fl105_1) (And.intro Ty.pl105_1 Ty.eq23)) (And.intro (And.intro Ty.eq26 Ty.eq105) (And.intro Ty.cb20 (And.intro Ty.cb21 Ty.cb22))))))))
theorem graph_raw (x : E) (hf : Fit x) (hb : depthE x ≤ big) : Ok Tryd.prog 7 [vE x] [] fun v bs rs => (v = .tup [vG (graphC x), vint (shapeC x)] ∧ bs = [] ∧ rs = []) ∨
    (shapeC x = 0 ∧ ∃ g c rest, v = .tup [.agg [slN g (lowE [] x).1.length c], vint 0] ∧ (lowE [] x).1.length ≤ c ∧ bs = [(g, bN (lowE [] x).1 rest)] ∧ rs = []) := by
  have hsh := shape_ok x hf hb
  have hxe := cE_eq x
  rw [vE, hxe] at hsh ⊢
  refine Ok.of_ex Ty.mixed Tryd.func7 rfl (by simp [Tryd.ntmps7]) (by kernel_rfl) fun F w0 I0 => ?_
  simp only [↓rA, rB, Int.reduceEq, Int.reduceLE, Int.reduceLT, Int.reduceToNat, Nat.reduceAdd, Nat.reduceEqDiff, Nat.reduceLT, Nat.reduceLeDiff, Nat.reduceMul, Nat.reduceSub, reduceCtorEq, tbLK0, Tryd.results7]
  refine fun b1 h1 => ?_; replace h1 := newb h1; try simp only [Nb] at h1
  simp only [↓rA, rB, Int.reduceEq, Int.reduceLE, Int.reduceLT, Int.reduceToNat, Nat.reduceAdd, Nat.reduceEqDiff, Nat.reduceLT, Nat.reduceLeDiff, Nat.reduceMul, Nat.reduceSub, reduceCtorEq, tbLK0, Tryd.results7, h1]
  refine fun b2 h2 => ?_; replace h2 := newb h2; try simp only [Nb] at h2
  simp only [↓rA, rB, Int.reduceEq, Int.reduceLE, Int.reduceLT, Int.reduceToNat, Nat.reduceAdd, Nat.reduceEqDiff, Nat.reduceLT, Nat.reduceLeDiff, Nat.reduceMul, Nat.reduceSub, reduceCtorEq, tbLK0, Tryd.results7, h1, h2]
  refine OkF_of _ hsh ?_
  by_cases e : shapeC x = 0
  case neg =>
    simp only [↓rA, rB, Int.reduceEq, Int.reduceLE, Int.reduceLT, Int.reduceToNat, Nat.reduceAdd, Nat.reduceEqDiff, Nat.reduceLT, Nat.reduceLeDiff, Nat.reduceMul, Nat.reduceSub, reduceCtorEq, tbLK0, Tryd.results7, h1, h2, e]
    have hg : graphC x = [] := by rw [graphC, if_neg e]
    exact ⟨_, [], [], leTup (.cons (leAgg (.cons (Le.nil 23) .nil)) (.cons (Le.refl _) .nil)), List.nil_sublist _, List.nil_sublist _, by rw [hg]; rfl, rfl, rfl⟩
  obtain ⟨p1, p2, p3⟩ := shape_parts e
  simp only [↓rA, rB, Int.reduceEq, Int.reduceLE, Int.reduceLT, Int.reduceToNat, Nat.reduceAdd, Nat.reduceEqDiff, Nat.reduceLT, Nat.reduceLeDiff, Nat.reduceMul, Nat.reduceSub, reduceCtorEq, tbLK0, Tryd.results7, h1, h2, e]
  refine fun b14 h14 => ?_; replace h14 := newb h14; try simp only [Nb] at h14
  simp only [↓rA, rB, Int.reduceEq, Int.reduceLE, Int.reduceLT, Int.reduceToNat, Nat.reduceAdd, Nat.reduceEqDiff, Nat.reduceLT, Nat.reduceLeDiff, Nat.reduceMul, Nat.reduceSub, reduceCtorEq, tbLK0, Tryd.results7, h1, h2, h14]
  refine fun b5 h5 => ?_; replace h5 := newb h5; try simp only [Nb] at h5
  simp only [↓rA, rB, Int.reduceEq, Int.reduceLE, Int.reduceLT, Int.reduceToNat, Nat.reduceAdd, Nat.reduceEqDiff, Nat.reduceLT, Nat.reduceLeDiff, Nat.reduceMul, Nat.reduceSub, reduceCtorEq, tbLK0, Tryd.results7, h1, h2, h14, h5]
  refine fun b6 h6 => ?_; replace h6 := newb h6; try simp only [Nb] at h6
  simp only [↓rA, rB, Int.reduceEq, Int.reduceLE, Int.reduceLT, Int.reduceToNat, Nat.reduceAdd, Nat.reduceEqDiff, Nat.reduceLT, Nat.reduceLeDiff, Nat.reduceMul, Nat.reduceSub, reduceCtorEq, tbLK0, Tryd.results7, h1, h2, h14, h5, h6, onB_t]
  have hw := walk_ok x hf (proper_agg2 x false p3) b5 b6 b14 h6.1 [] [(b14, .c [nilS, fnN])] (.inl ⟨rfl, rfl⟩) (by simp only [List.length_nil]; omega)
  rw [vE, hxe] at hw
  refine OkF_withN _ [_, _] (List.Perm.refl _) hw ?_
  rintro v bs rs ⟨rfl, ⟨bs1, rfl, hs⟩, rfl⟩ hN
  rcases hs with ⟨hn, rfl⟩ | ⟨g, c, rest, hne, hsg, hc, hr, rfl⟩
  · simp only [↓rA, rB, Int.reduceEq, Int.reduceLE, Int.reduceLT, Int.reduceToNat, Nat.reduceAdd, Nat.reduceEqDiff, Nat.reduceLT, Nat.reduceLeDiff, Nat.reduceMul, Nat.reduceSub, reduceCtorEq, tbLK0, Tryd.results7, h1, h2, h14, h5, h6]
    have hg : graphC x = [] := by rw [graphC, if_pos e, hn]
    exact ⟨_, [], [], leTup (.cons (leAgg (.cons (Le.nil 23) .nil)) (.cons (Le.refl _) .nil)), List.nil_sublist _, List.nil_sublist _, .inl ⟨by rw [hg, e]; rfl, rfl, rfl⟩⟩
  · simp only [List.cons_append, List.nil_append, List.map_cons, List.map_nil, List.nodup_cons, List.mem_cons, List.not_mem_nil, or_false, not_or, List.nodup_nil, not_false_eq_true, and_true] at hN
    have n2 : g ≠ b2 ∧ b2 ≠ g := ⟨hN.2.2.1.2.1, fun e => hN.2.2.1.2.1 e.symm⟩
    simp only [↓rA, rB, Int.reduceEq, Int.reduceLE, Int.reduceLT, Int.reduceToNat, Nat.reduceAdd, Nat.reduceEqDiff, Nat.reduceLT, Nat.reduceLeDiff, Nat.reduceMul, Nat.reduceSub, reduceCtorEq, tbLK0, Tryd.results7, h1, h2, h14, h5, h6, hsg, n2]
    exact ⟨_, [_], [], Le.refl _, List.Sublist.cons _ (List.Sublist.cons _ (List.Sublist.cons_cons _ (List.nil_sublist _))), List.nil_sublist _, .inr ⟨e, g, c, rest, rfl, hc, rfl, rfl⟩⟩
theorem graph_ok (x : E) (hf : Fit x) (hb : depthE x ≤ big) : OkP Tryd.prog 7 [vE x] (.tup [vG (graphC x), vint (shapeC x)]) := by
  refine Ok.norows' (Q := fun v bs rs => bs = [] ∧ rs = [] ∧ (v = .tup [vG (graphC x), vint (shapeC x)] ∨ ∃ y, v = .tup [.agg [.list (some y) 23 ((graphC x).map cNd)], vint (shapeC x)])) (Ok.freeze (graph_raw x hf hb) fun v bs rs h => ?_) fun v bs rs h => ?_
  · rcases h with ⟨rfl, rfl, rfl⟩ | ⟨e, g, c, rest, rfl, hc, rfl, rfl⟩
    · exact .inl ⟨rfl, rfl, .inl rfl⟩
    · have hg : graphC x = (lowE [] x).1 := by rw [graphC, if_pos e]
      refine .inr ⟨g, (lowE [] x).1.length, c, 23, _, (lowE [] x).1.map cNd, [], .tup [.agg [.list (some (.slice (some ⟨g, 0, none⟩) (lowE [] x).1.length c)) 23 ((lowE [] x).1.map cNd)], vint 0], List.Perm.refl _, ⟨List.take_left' (nds_len _), fun e he => by obtain ⟨n, _, rfl⟩ := List.mem_map.1 he; rfl, by simp, hc⟩, .tup (.cons (.agg (.cons .here .nil)) (.cons (.same _) .nil)), rfl, rfl, .inr ⟨.slice (some ⟨g, 0, none⟩) (lowE [] x).1.length c, ?_⟩⟩
      rw [hg, e]
  · obtain ⟨rfl, rfl, rfl | ⟨y, rfl⟩⟩ := h
    · exact ⟨_, [], [], Le.refl _, List.nil_sublist _, List.nil_sublist _, rfl, rfl, rfl⟩
    · exact ⟨_, [], [], leTup (.cons (leAgg (.cons (Le.list _ _ _) .nil)) (.cons (Le.refl _) .nil)), List.nil_sublist _, List.nil_sublist _, rfl, rfl, rfl⟩
end Go.Proofs.YtphkmlogjgeipaaDoor

/- Contracts of lowering, part l: catalogs; what an expression directly uses. -/
set_option linter.unusedSimpArgs false
set_option maxRecDepth 100000
-- @call 58
namespace Go.Lo
open Go.VL Go.Ar
structure Typ where
  kind : Int
  unit : List Fac
  of : Str
structure Fld where
  name : Str
  typ : Typ
structure Tab where
  name : Str
  entity : Str
  fields : List Fld
  keep : Int
structure Ftr where
  name : Str
  entity : Str
  typ : Typ
  body : E
  version : Int
structure Cat where
  tables : List Tab
  features : List Ftr
  drafts : List Ftr
  past : List Ftr
abbrev cFld (f : Fld) : List V := [vstr f.name, vint f.typ.kind, vFacs f.typ.unit, vstr f.typ.of]
abbrev cTab (t : Tab) : List V := [vstr t.name, vstr t.entity, .list none 4 (t.fields.map cFld), vint t.keep]
/-- A feature's cells; h, a: those of its body. -/
abbrev cF (f : Ftr) (h : Hd) (a : V) : List V := [vstr f.name, vstr f.entity, vint f.typ.kind, vFacs f.typ.unit, vstr f.typ.of, vint h.kind, vstr h.op, vstr h.name, vstr h.table, vint h.val.kind, vint h.val.n, vstr h.val.s, vFacs h.unit, vint h.param, vint h.wk, vint h.ws, a, vint f.version]
def cFtr (f : Ftr) : List V := cF f f.body.hd (vEs f.body.args)
theorem cFtr_eq (f : Ftr) : cFtr f = cF f f.body.hd (vEs f.body.args) := rfl
abbrev vFtrs (l : List Ftr) : V := .list none 18 (l.map cFtr)
abbrev vTabs (l : List Tab) : V := .list none 4 (l.map cTab)
abbrev cCat (c : Cat) : List V := [vTabs c.tables, vFtrs c.features, vFtrs c.drafts, vFtrs c.past]
abbrev vCat (c : Cat) : V := .agg (cCat c)

/-- A set of strings, in the order in which they came. -/
def insS (l : List Str) (s : Str) : List Str := if memS' l s = true then l else l ++ [s]
where memS' (l : List Str) (s : Str) : Bool := l.any fun x => decide (x = s)
mutual
def dirE : E → List Str × List Str → List Str × List Str
  | .mk h l, p => dirEs l (if h.kind = 3 then (insS p.1 h.name, p.2) else if h.kind = 4 then (insS p.1 h.name, p.2) else if h.kind = 5 then (p.1, insS p.2 h.table) else p)
def dirEs : List E → List Str × List Str → List Str × List Str
  | [], p => p
  | x :: r, p => dirEs r (dirE x p)
end
theorem dirE_mk (h : Hd) (l : List E) (p : List Str × List Str) : dirE (.mk h l) p = dirEs l (if h.kind = 3 then (insS p.1 h.name, p.2) else if h.kind = 4 then (insS p.1 h.name, p.2) else if h.kind = 5 then (p.1, insS p.2 h.table) else p) := by rw [dirE]
theorem dirEs_append : ∀ (l m : List E) (p : List Str × List Str), dirEs (l ++ m) p = dirEs m (dirEs l p)
  | [], m, p => rfl
  | x :: r, m, p => by simp only [List.cons_append, dirEs, dirEs_append r m]
/-- The entries of a set's map. -/
def entS : Nat → List Str → List Ent
  | _, [] => []
  | i, s :: r => (i, .string s, vbool true) :: entS (i + 1) r
theorem entS_append : ∀ (i : Nat) (l : List Str) (s : Str), entS i (l ++ [s]) = entS i l ++ [(i + l.length, .string s, vbool true)]
  | i, [], s => rfl
  | i, x :: r, s => by simp only [List.cons_append, entS, entS_append (i + 1) r s, List.length_cons, show i + 1 + r.length = i + (r.length + 1) by omega]
abbrev mS (l : List Str) : B := .m ([.s], false) (entS 0 l) l.length
theorem find_entS : ∀ (i : Nat) (l : List Str) (s : Str), findM (entS i l) (.string s) = if insS.memS' l s = true then some (vbool true) else none
  | i, [], s => rfl
  | i, x :: r, s => by
    have ih := find_entS (i + 1) r s
    have hk : keq (.string s) (.string x) = decide (x = s) := by
      simp only [keq, Value.cells]
      simp [veqL, veq, eq_comm]
    unfold findM at ih ⊢
    simp only [entS, List.find?_cons, hk, insS.memS', List.any_cons] at ih ⊢
    by_cases e : x = s
    · simp [e]
    · simp only [decide_eq_false e, Bool.false_or]
      exact ih
theorem mod_entS : ∀ (i : Nat) (l : List Str) (s : Str), modM (.string s) (vbool true) (entS i l) = entS i l
  | i, [], s => rfl
  | i, x :: r, s => by
    have ih := mod_entS (i + 1) r s
    simp only [entS, modM, ih]
    split <;> rfl
end Go.Lo
namespace Go.Proofs.YtphkmlogjgeipaaDoor
open Go.VL Go.Ar Go.Lo Go.Proofs.YtphkmlogjgeipaaDoor

set_option linter.defProp false in
def tbLP0 := (And.intro (And.intro (And.intro (And.intro (And.intro (And.intro Ty.sz3 Ty.by3) (And.intro Ty.ag3 (And.intro Ty.zr3 Ty.un3))) (And.intro (And.intro Ty.sz4 Ty.by4) (And.intro Ty.ag4 (And.intro Ty.zr4 Ty.un4)))) (And.intro (And.intro (And.intro Ty.sz9 Ty.by9) (And.intro Ty.ag9 (And.intro Ty.zr9 Ty.un9))) (And.intro (And.intro Ty.sz23 (And.intro Ty.by23 Ty.ag23)) (And.intro Ty.zr23 (And.intro Ty.fl23_0 Ty.pl23_0))))) (And.intro (And.intro (And.intro (And.intro Ty.fl23_1 Ty.pl23_1) (And.intro Ty.fl23_2 (And.intro Ty.pl23_2 Ty.sz24))) (And.intro (And.intro Ty.by24 Ty.ag24) (And.intro Ty.zr24 (And.intro Ty.un24 Ty.sz26)))) (And.intro (And.intro (And.intro Ty.by26 Ty.ag26) (And.intro Ty.zr26 (And.intro Ty.fl26_0 Ty.pl26_0))) (And.intro (And.intro Ty.fl26_1 (And.intro Ty.pl26_1 Ty.sz27)) (And.intro Ty.by27 (And.intro Ty.ag27 Ty.zr27)))))) (And.intro (And.intro (And.intro (And.intro (And.intro Ty.un27 Ty.sz29) (And.intro Ty.by29 (And.intro Ty.ag29 Ty.zr29))) (And.intro (And.intro Ty.fl29_0 Ty.pl29_0) (And.intro Ty.fl29_1 (And.intro Ty.pl29_1 Ty.fl29_2)))) (And.intro (And.intro (And.intro Ty.pl29_2 Ty.fl29_3) (And.intro Ty.pl29_3 (And.intro Ty.fl29_4 Ty.pl29_4))) (And.intro (And.intro Ty.fl29_5 (And.intro Ty.pl29_5 Ty.fl29_6)) (And.intro Ty.pl29_6 (And.intro Ty.fl29_7 Ty.pl29_7))))) (And.intro (And.intro (And.intro (And.intro Ty.fl29_8 Ty.pl29_8) (And.intro Ty.sz94 (And.intro Ty.by94 Ty.ag94))) (And.intro (And.intro Ty.zr94 Ty.un94) (And.intro Ty.sz105 (And.intro Ty.by105 Ty.ag105)))) (And.intro (And.intro (And.intro Ty.zr105 Ty.fl105_0) (And.intro Ty.pl105_0 (And.intro Ty.fl105_1 Ty.pl105_1))) (And.intro (And.intro Ty.eq23 (And.intro Ty.eq26 Ty.eq105)) (And.intro Ty.mp94 (And.intro Ty.cb44 Ty.cb58)))))))
theorem direct_ok : ∀ (x : E), Fit x → ∀ (p : List Str × List Str) (b1 b2 : Nat) (hb : b1 ≠ b2 ∧ b2 ≠ b1), Ok Tryd.prog 44 [vE x, .lit (.map (some b1)), .lit (.map (some b2))] [(b1, mS p.1), (b2, mS p.2)] fun v bs rs => v = .tup [] ∧ bs = [(b1, mS (dirE x p).1), (b2, mS (dirE x p).2)] ∧ rs = [] := by
  intro x
  induction x using E.ind with
  | h hd l ih =>
  intro hf p b1 b2 hb
  have hl := hf.len
  have ha := hf.args
  simp only [E.args, big] at hl ha
  rw [vE, cE_mk, dirE_mk]
  generalize hq : (if hd.kind = 3 then (insS p.1 hd.name, p.2) else if hd.kind = 4 then (insS p.1 hd.name, p.2) else if hd.kind = 5 then (p.1, insS p.2 hd.table) else p) = q
  refine Ok.of_ex Ty.mixed Tryd.func44 rfl (by simp [Tryd.ntmps44]) (by kernel_rfl) fun F w0 I0 => ?_
  simp only [↓rA, rB, Int.reduceEq, Int.reduceLE, Int.reduceLT, Int.reduceToNat, Nat.reduceAdd, Nat.reduceEqDiff, Nat.reduceLT, Nat.reduceLeDiff, Nat.reduceMul, Nat.reduceSub, reduceCtorEq, tbLP0, Tryd.results44]
  refine fun b3 h3 => ?_; replace h3 := newb h3; try simp only [Nb] at h3
  simp only [↓EX_end, ↓EX_seq, ↓EX_skip, ↓EX_label, ↓EX_blk, ↓EX_scope, ↓EX_sc, ↓EX_stop, ↓EX_exit, ↓EX_ret, ↓EX_cond, ↓EX_region, ↓EX_draw, ↓EX_loopleaf, ↓EX_rangeleaf, ↓XI_end, ↓XI_code, ↓XI_ops, ↓XI_stop, ↓XI_sc, ↓XI_same, ↓XI_other, ↓EX_ops_nil, ↓EX_plain, ↓EX_guard, ↓EX_dplain, ↓EX_dguard, ↓EX_gsoft, ↓EX_gsoftg, ↓EX_g_alloc, ↓EX_g_box, ↓EX_g_store, ↓EX_g_append, ↓EX_g_copy, ↓EX_g_call, ↓callR_func, ↓EX_x_call, ↓EX_x_buildSlice, ↓callX_func, ↓callX_yield, ↓EX_h_makeMap, ↓EX_h_lookup, ↓EX_h_mapUpdate, ↓ST_makeMap, ↓ST_lookup, ↓ST_mapUpdate, ↓ST_range, ↓ST_next, ↓ST_entry, ↓makeMapK_eq, ↓makeMapK_eqr, ↓lookK_eq, ↓lookD_nil, ↓lookD_nil', ↓lookD_box, ↓lookD_box', ↓updK_eq, ↓updD_box, ↓rangeK_eq, ↓rangeD_box, ↓nextK_it, ↓entryK_it, ↓ST_move, ↓ST_assign, ↓ST_pick, ↓ST_load, ↓ST_fieldAddr, ↓ST_field, ↓ST_indexAddr, ↓ST_index, ↓ST_binOp, ↓ST_unOp, ↓ST_convert, ↓ST_dconvert, ↓ST_gconvert, ↓ST_extract, ↓ST_slice, ↓ST_build, ↓ST_nil, ↓ST_len, ↓ST_max, ↓ST_min, ↓ST_call, ↓ST_dcall, ↓ST_gcall, ↓ST_makeFunc, ↓ST_alloc, ↓ST_box, ↓ST_store, ↓ST_buildSlice, ↓ST_dbuildSlice, ↓ST_append, ↓ST_copy, ↓ST_clear, ↓ST_makeSlice, ↓ST_cap, ↓EX_h_alloc, ↓EX_h_box, ↓EX_h_store, ↓EX_h_append, ↓EX_h_makeSlice, ↓EX_h_copy, ↓loadK_eq, ↓partK_eq, ↓fieldAddrK_eq, ↓fieldK_eq, ↓idxAddrD_slice, ↓idxAddrD_array, ↓idxAddrK_eq, ↓idxD_string, ↓idxD_array, ↓idxK_eq, ↓convD_int, ↓convD_string, ↓convK_eq, ↓convE_int, ↓convE_string, ↓convE_bytes, ↓convB_eq, ↓bytesD_nil, ↓bytesD_box, ↓bytesD_list, ↓lenD_string, ↓lenD_slice, ↓lenK_eq, ↓sliceD_string, ↓sliceD_slice, ↓sliceD_slice3, ↓sliceK_eq, ↓buildK_eq, ↓funcK_eq, ↓loadD_agg, ↓loadD_one, ↓partD_agg, ↓partD_one, ↓allocK_eq, ↓boxK_eq, ↓storeK_eq, ↓buildSliceK_eq, ↓buildAny_zero, ↓buildAny_cons, ↓buildSliceD_eq, ↓appendK_eq, ↓appSK_eq, ↓capK_eq, ↓srcK_eq, ↓appMK_eq, ↓appAK_eq, ↓copyK_eq, ↓clearK_eq, ↓AllV_eq, ↓retQ_ret, ↓retQ_normal, ↓retK, ↓resV_nil, ↓resV_tmp, ↓resV_cell, natPos, td1, td2, td3, keep_σ, keep_boxes, keep_rows, nilRow_same, nilRow_ne, nilRow_boxes, nilRow_rows, onVal_eq, onB_t, onB_f, nat0, dropB_σ, dropB_boxes, dropB_rows, onMapT_some, onM_some, onI_some, onFind_some, onFind_none, mapOf_map, getM_same, getM_other, getI_same, getI_other, setX_same, setX_other, valV_agg, valV_str, valV_int, keyV_lit, keyV_agg, keyS_agg, keyS_str, keyS_int, addB_σ, addB_boxes, addB_rows, onMode_0, onMode_1, onMode_2, onMode_3, onMode_4, modeOf_nil, modeOf_cons, ncall, Todo_eq, put_eq, put_ne, put_none, put_boxes, put_rows, addBox_σ, addBox_boxes, addBox_rows, addRow_σ, addRow_boxes, addRow_rows, setBoxes_σ, setBoxes_boxes, setBoxes_rows, setRows_σ, setRows_boxes, setRows_rows, S0_σ, S0_boxes, S0_rows, ev_tmp, ev_const, ev_global, gvL_nil, gvL_cons, globs_is, ev_func, guardV_eq, getB_same, getB_other, setB_same, setB_other, packV, soft_move, soft_assign, soft_pick, soft_load, soft_fieldAddr, soft_field, soft_indexAddr, soft_index, soft_binOp, soft_unOp, soft_convert, soft_extract, soft_slice, soft_build, soft_nil, soft_buildSlice, soft_makeFunc, soft_callv, soft_len, soft_cap, soft_max, soft_min, onSome_some, onInt_int, onStr_str, onAgg_agg, onTup_tup, onHead_cons, onBool_bool, onGuard_tt, onGuard_ft, onGuard_tf, onGuard_ff, onGuard_skip, onCond_t, onCond_f, onL_list, onL_nil, onS_list, onS_nil, onS_box, capD_slice, bnd_none, bnd_int, shiftP_ref, shiftP_ptr, atP_ref, atP_ptr, posK_succ, binK_int, binK_str, binK_bool, boolOf_bool, binK_nil, binK_lnil, notNil_some, notNil_none, nilQ_eq, binK_agg, EqK_eql', EqK_neq', eqTB, litB, litV, fitL, fit, veqL, veq, unK_lit, nilK_ptr, nilK_ref, nilK_func, maxK_max, maxK_min, onPtr_ptr, sliceOf_slice, appD_nil, appD_own, srcD_list, srcD_nil, srcD_box, srcD_str, appMD_box, appAD_nil, appAD_box, copyD_nil, copyD_box, clrD_nil, clrD_box, makeSliceK_int, appendAny_own, appendAny_ownN, appendAny_ownS, appendAny_nil, appendAny_zeros, appendAny_list, appendAny_slice, appendAny_str, If2_t, If2_f, takeRF_single, callE_func, callE_yield, callK_func, And2_true, sbin, sun, nilB, cellsV, oneB, okC, vals, fillV, partsE, Int.le_refl, Nat.sub_zero, Nat.zero_le, Nat.le_refl, eq_self, and_true, true_and, and_self, if_true, if_false, false_and, and_false, or_false, false_or, or_true, true_or, not_true_eq_false, not_false_eq_true, decide_true, decide_false, decide_eq_true_eq, Option.some.injEq, reduceCtorEq, Bool.false_eq_true, ne_eq, List.getD_cons_zero, List.getD_cons_succ, List.getD_nil, List.getElem?_cons_zero, List.getElem?_cons_succ, List.getElem?_nil, Option.bind_some, Option.bind_none, Option.map_some, Option.map_none, Option.isSome_some, Option.isSome_none, Option.isNone_some, Option.isNone_none, List.map_cons, List.map_nil, List.take_succ_cons, List.take_zero, List.take_nil, List.drop_succ_cons, List.drop_zero, List.drop_nil, List.length_cons, List.length_nil, List.cons_append, List.nil_append, List.append_nil, List.filter_nil, List.filter_cons, List.any_nil, List.any_cons, List.all_nil, List.all_cons, List.toList_toArray, Nat.add_zero, Nat.zero_add, Bool.not_true, Bool.not_false, Bool.true_and, Bool.and_true, Bool.or_false, Bool.false_or, Bool.and_false, Bool.false_and, Bool.or_true, Bool.true_or, implies_true, Nat.reduceLT, Nat.reduceLeDiff, Nat.reduceEqDiff, Nat.reduceAdd, Nat.reduceSub, Nat.reduceMul, Int.reduceToNat, Int.reduceLE, Int.reduceLT, Int.reduceEq, Int.toNat_natCast, Int.natCast_nonneg, tbLP0, Tryd.results44, h3, hb]
  refine EX_cut (fun S => S.boxes = [(b3, .c (cH hd (vEs l))), (b1, mS q.1), (b2, mS q.2)] ∧ S.rows = [] ∧ S.σ 1 = .lit (.map (some b1)) ∧ S.σ 2 = .lit (.map (some b2)) ∧ S.σ 3 = ptr b3) ?_ ?_
  · have hname : ∀ (k : Str) (m : List Str), findM (entS 0 m) (.string k) = none → mS (insS m k) = .m ([.s], false) (entS 0 m ++ [(m.length, .string k, vbool true)]) (m.length + 1) := fun k m h => by
      rw [find_entS] at h
      have : insS.memS' m k = false := by
        cases e : insS.memS' m k
        · rfl
        · rw [if_pos e] at h; cases h
      unfold mS insS
      rw [if_neg (by rw [this]; decide), entS_append, Nat.zero_add, List.length_append]
      rfl
    have hold : ∀ (k : Str) (m : List Str) (v : V), findM (entS 0 m) (.string k) = some v → insS m k = m := fun k m v h => by
      rw [find_entS] at h
      unfold insS
      split
      · rfl
      · rename_i e; rw [if_neg e] at h; cases h
    by_cases e3 : hd.kind = 3
    · rw [if_pos e3] at hq
      subst hq
      cases hfm : findM (entS 0 p.1) (.string hd.name) with
      | none =>
        rw [hname _ _ hfm]
        simp only [↓rA, rB, Int.reduceEq, Int.reduceLE, Int.reduceLT, Int.reduceToNat, Nat.reduceAdd, Nat.reduceEqDiff, Nat.reduceLT, Nat.reduceLeDiff, Nat.reduceMul, Nat.reduceSub, reduceCtorEq, tbLP0, Tryd.results44, h3, hb, e3, hfm]
      | some v =>
        rw [hold _ _ _ hfm]
        simp only [↓rA, rB, Int.reduceEq, Int.reduceLE, Int.reduceLT, Int.reduceToNat, Nat.reduceAdd, Nat.reduceEqDiff, Nat.reduceLT, Nat.reduceLeDiff, Nat.reduceMul, Nat.reduceSub, reduceCtorEq, tbLP0, Tryd.results44, h3, hb, e3, hfm, mod_entS]
    rw [if_neg e3] at hq
    by_cases e4 : hd.kind = 4
    · rw [if_pos e4] at hq
      subst hq
      cases hfm : findM (entS 0 p.1) (.string hd.name) with
      | none =>
        rw [hname _ _ hfm]
        simp only [↓rA, rB, Int.reduceEq, Int.reduceLE, Int.reduceLT, Int.reduceToNat, Nat.reduceAdd, Nat.reduceEqDiff, Nat.reduceLT, Nat.reduceLeDiff, Nat.reduceMul, Nat.reduceSub, reduceCtorEq, tbLP0, Tryd.results44, h3, hb, e3, e4, hfm]
      | some v =>
        rw [hold _ _ _ hfm]
        simp only [↓rA, rB, Int.reduceEq, Int.reduceLE, Int.reduceLT, Int.reduceToNat, Nat.reduceAdd, Nat.reduceEqDiff, Nat.reduceLT, Nat.reduceLeDiff, Nat.reduceMul, Nat.reduceSub, reduceCtorEq, tbLP0, Tryd.results44, h3, hb, e3, e4, hfm, mod_entS]
    rw [if_neg e4] at hq
    by_cases e5 : hd.kind = 5
    · rw [if_pos e5] at hq
      subst hq
      cases hfm : findM (entS 0 p.2) (.string hd.table) with
      | none =>
        rw [hname _ _ hfm]
        simp only [↓rA, rB, Int.reduceEq, Int.reduceLE, Int.reduceLT, Int.reduceToNat, Nat.reduceAdd, Nat.reduceEqDiff, Nat.reduceLT, Nat.reduceLeDiff, Nat.reduceMul, Nat.reduceSub, reduceCtorEq, tbLP0, Tryd.results44, h3, hb, e3, e4, e5, hfm]
      | some v =>
        rw [hold _ _ _ hfm]
        simp only [↓rA, rB, Int.reduceEq, Int.reduceLE, Int.reduceLT, Int.reduceToNat, Nat.reduceAdd, Nat.reduceEqDiff, Nat.reduceLT, Nat.reduceLeDiff, Nat.reduceMul, Nat.reduceSub, reduceCtorEq, tbLP0, Tryd.results44, h3, hb, e3, e4, e5, hfm, mod_entS]
    rw [if_neg e5] at hq
    subst hq
    simp only [↓rA, rB, Int.reduceEq, Int.reduceLE, Int.reduceLT, Int.reduceToNat, Nat.reduceAdd, Nat.reduceEqDiff, Nat.reduceLT, Nat.reduceLeDiff, Nat.reduceMul, Nat.reduceSub, reduceCtorEq, tbLP0, Tryd.results44, h3, hb, e3, e4, e5]
  · rintro S ⟨gb, gr, g1, g2, g3⟩
    simp only [↓rA, rB, Int.reduceEq, Int.reduceLE, Int.reduceLT, Int.reduceToNat, Nat.reduceAdd, Nat.reduceEqDiff, Nat.reduceLT, Nat.reduceLeDiff, Nat.reduceMul, Nat.reduceSub, reduceCtorEq, tbLP0, Tryd.results44, gb, gr, g1, g2, g3, h3, hb]
    refine EX_for Ty.mixed (by kernel_rfl) l.length (fun i S => S.boxes = [(b3, .c (cH hd (vEs l))), (b1, mS (dirEs (l.take i) q).1), (b2, mS (dirEs (l.take i) q).2)] ∧ S.rows = [] ∧ S.σ 1 = .lit (.map (some b1)) ∧ S.σ 2 = .lit (.map (some b2)) ∧ S.σ 22 = vEs l ∧ S.σ 23 = vint l.length ∧ S.σ 24 = vint i) ⟨0, ?_⟩ (fun i S hi ⟨gb, gr, g1, g2, g22, g23, g24⟩ => ?_) (fun S ⟨gb, gr, g1, g2, g22, g23, g24⟩ => ?_)
    · simp only [↓rA, rB, Int.reduceEq, Int.reduceLE, Int.reduceLT, Int.reduceToNat, Nat.reduceAdd, Nat.reduceEqDiff, Nat.reduceLT, Nat.reduceLeDiff, Nat.reduceMul, Nat.reduceSub, reduceCtorEq, tbLP0, Tryd.results44, gb, gr, g1, g2, g3, List.length_map, dirEs]
    · have hwi := wrap_succ (i := i) (N := l.length) hi (by omega)
      have hx := List.getElem_mem hi
      simp only [↓rA, rB, Int.reduceEq, Int.reduceLE, Int.reduceLT, Int.reduceToNat, Nat.reduceAdd, Nat.reduceEqDiff, Nat.reduceLT, Nat.reduceLeDiff, Nat.reduceMul, Nat.reduceSub, reduceCtorEq, tbLP0, Tryd.results44, gb, gr, g1, g2, g22, g23, g24, h3, hb, Int.ofNat_lt, hi, List.length_map, getD_map _ _ _ hi, cE_eq]
      refine fun b7 h7 => ?_; replace h7 := newb h7; try simp only [Nb] at h7
      simp only [↓rA, rB, Int.reduceEq, Int.reduceLE, Int.reduceLT, Int.reduceToNat, Nat.reduceAdd, Nat.reduceEqDiff, Nat.reduceLT, Nat.reduceLeDiff, Nat.reduceMul, Nat.reduceSub, reduceCtorEq, tbLP0, Tryd.results44, gb, gr, g1, g2, g22, g23, g24, h3, hb, h7, Int.ofNat_lt, hi, List.length_map, getD_map _ _ _ hi]
      have hc := ih l[i] hx (ha _ hx) (dirEs (l.take i) q) b1 b2 hb
      rw [vE, cE_eq] at hc
      refine OkF_with _ [] (List.Perm.of_eq (List.append_nil _).symm) (Ok.frame [_, _] hc) ?_
      rintro v bs rs ⟨bs1, rfl, _, rfl, rfl, rfl⟩
      simp only [↓rA, rB, Int.reduceEq, Int.reduceLE, Int.reduceLT, Int.reduceToNat, Nat.reduceAdd, Nat.reduceEqDiff, Nat.reduceLT, Nat.reduceLeDiff, Nat.reduceMul, Nat.reduceSub, reduceCtorEq, tbLP0, Tryd.results44, gr, g1, g2, g22, g23, g24, hwi]
      refine ⟨1, ?_⟩
      rw [List.take_succ_eq_append_getElem hi, dirEs_append]
      rfl
    · rw [List.take_of_length_le (Nat.le_refl _)] at gb
      simp only [↓rA, rB, Int.reduceEq, Int.reduceLE, Int.reduceLT, Int.reduceToNat, Nat.reduceAdd, Nat.reduceEqDiff, Nat.reduceLT, Nat.reduceLeDiff, Nat.reduceMul, Nat.reduceSub, reduceCtorEq, tbLP0, Tryd.results44, gb, gr, g1, g2, g22, g23, g24, h3, hb, Int.ofNat_lt, Nat.lt_irrefl]
      exact ⟨_, [_, _], [], Le.refl _, List.Sublist.cons _ (List.Sublist.refl _), List.nil_sublist _, rfl, rfl, rfl⟩

/-! ### A feature by its name -/
def findF (l : List Ftr) (s : Str) : Option Ftr := l.find? fun f => decide (f.name = s)
set_option linter.defProp false in
def tbLP1 := (And.intro (And.intro (And.intro (And.intro (And.intro (And.intro Ty.sz3 (And.intro Ty.by3 Ty.ag3)) (And.intro Ty.zr3 (And.intro Ty.un3 Ty.sz4))) (And.intro (And.intro Ty.by4 (And.intro Ty.ag4 Ty.zr4)) (And.intro Ty.un4 (And.intro Ty.sz9 Ty.by9)))) (And.intro (And.intro (And.intro Ty.ag9 (And.intro Ty.zr9 Ty.un9)) (And.intro Ty.sz23 (And.intro Ty.by23 Ty.ag23))) (And.intro (And.intro Ty.zr23 (And.intro Ty.fl23_0 Ty.pl23_0)) (And.intro (And.intro Ty.fl23_1 Ty.pl23_1) (And.intro Ty.fl23_2 Ty.pl23_2))))) (And.intro (And.intro (And.intro (And.intro Ty.sz24 (And.intro Ty.by24 Ty.ag24)) (And.intro Ty.zr24 (And.intro Ty.un24 Ty.sz26))) (And.intro (And.intro Ty.by26 (And.intro Ty.ag26 Ty.zr26)) (And.intro Ty.fl26_0 (And.intro Ty.pl26_0 Ty.fl26_1)))) (And.intro (And.intro (And.intro Ty.pl26_1 (And.intro Ty.sz27 Ty.by27)) (And.intro Ty.ag27 (And.intro Ty.zr27 Ty.un27))) (And.intro (And.intro Ty.sz29 (And.intro Ty.by29 Ty.ag29)) (And.intro (And.intro Ty.zr29 Ty.fl29_0) (And.intro Ty.pl29_0 Ty.fl29_1)))))) (And.intro (And.intro (And.intro (And.intro (And.intro Ty.pl29_1 (And.intro Ty.fl29_2 Ty.pl29_2)) (And.intro Ty.fl29_3 (And.intro Ty.pl29_3 Ty.fl29_4))) (And.intro (And.intro Ty.pl29_4 (And.intro Ty.fl29_5 Ty.pl29_5)) (And.intro Ty.fl29_6 (And.intro Ty.pl29_6 Ty.fl29_7)))) (And.intro (And.intro (And.intro Ty.pl29_7 (And.intro Ty.fl29_8 Ty.pl29_8)) (And.intro Ty.sz56 (And.intro Ty.by56 Ty.ag56))) (And.intro (And.intro Ty.zr56 (And.intro Ty.fl56_0 Ty.pl56_0)) (And.intro (And.intro Ty.fl56_1 Ty.pl56_1) (And.intro Ty.fl56_2 Ty.pl56_2))))) (And.intro (And.intro (And.intro (And.intro Ty.sz58 (And.intro Ty.by58 Ty.ag58)) (And.intro Ty.zr58 (And.intro Ty.fl58_0 Ty.pl58_0))) (And.intro (And.intro Ty.fl58_1 (And.intro Ty.pl58_1 Ty.fl58_2)) (And.intro (And.intro Ty.pl58_2 Ty.fl58_3) (And.intro Ty.pl58_3 Ty.fl58_4)))) (And.intro (And.intro (And.intro Ty.pl58_4 (And.intro Ty.sz105 Ty.by105)) (And.intro Ty.ag105 (And.intro Ty.zr105 Ty.fl105_0))) (And.intro (And.intro Ty.pl105_0 (And.intro Ty.fl105_1 Ty.pl105_1)) (And.intro (And.intro Ty.eq23 Ty.eq26) (And.intro Ty.eq105 Ty.cb58)))))))
theorem find1_ok (f : Ftr) (s : Str) (b : Nat) : Ok Tryd.prog 58 [.agg (cFtr f), ptr b] [(b, .c [vstr s])] fun v bs rs => v = vbool (decide (f.name = s)) ∧ bs = [(b, .c [vstr s])] ∧ rs = [] := by
  simp only [cFtr_eq]
  refine Ok.of_ex Ty.mixed Tryd.func58 rfl (by simp [Tryd.ntmps58]) (by kernel_rfl) fun F w0 I0 => ?_
  simp only [↓rA, rB, Int.reduceEq, Int.reduceLE, Int.reduceLT, Int.reduceToNat, Nat.reduceAdd, Nat.reduceEqDiff, Nat.reduceLT, Nat.reduceLeDiff, Nat.reduceMul, Nat.reduceSub, reduceCtorEq, tbLP1, Tryd.results58]
  refine fun b2 h2 => ?_; replace h2 := newb h2; try simp only [Nb] at h2
  by_cases e : f.name = s
  · simp only [↓rA, rB, Int.reduceEq, Int.reduceLE, Int.reduceLT, Int.reduceToNat, Nat.reduceAdd, Nat.reduceEqDiff, Nat.reduceLT, Nat.reduceLeDiff, Nat.reduceMul, Nat.reduceSub, reduceCtorEq, tbLP1, Tryd.results58, h2, e]
    exact ⟨_, [_], [], Le.refl _, List.Sublist.cons _ (List.Sublist.refl _), List.nil_sublist _, rfl, rfl, rfl⟩
  · simp only [↓rA, rB, Int.reduceEq, Int.reduceLE, Int.reduceLT, Int.reduceToNat, Nat.reduceAdd, Nat.reduceEqDiff, Nat.reduceLT, Nat.reduceLeDiff, Nat.reduceMul, Nat.reduceSub, reduceCtorEq, tbLP1, Tryd.results58, h2, e]
    exact ⟨_, [_], [], Le.refl _, List.Sublist.cons _ (List.Sublist.refl _), List.nil_sublist _, rfl, rfl, rfl⟩
abbrev fnF (b : Nat) : V := .lit (.func (.func 58) #[] #[.pointer (some ⟨b, 0, none⟩)])
set_option linter.defProp false in
def tbLP2 := (And.intro (And.intro (And.intro (And.intro (And.intro (And.intro Ty.sz3 (And.intro Ty.by3 Ty.ag3)) (And.intro Ty.zr3 (And.intro Ty.un3 Ty.sz4))) (And.intro (And.intro Ty.by4 (And.intro Ty.ag4 Ty.zr4)) (And.intro (And.intro Ty.un4 Ty.sz9) (And.intro Ty.by9 Ty.ag9)))) (And.intro (And.intro (And.intro Ty.zr9 (And.intro Ty.un9 Ty.sz23)) (And.intro (And.intro Ty.by23 Ty.ag23) (And.intro Ty.zr23 Ty.fl23_0))) (And.intro (And.intro Ty.pl23_0 (And.intro Ty.fl23_1 Ty.pl23_1)) (And.intro (And.intro Ty.fl23_2 Ty.pl23_2) (And.intro Ty.sz24 Ty.by24))))) (And.intro (And.intro (And.intro (And.intro Ty.ag24 (And.intro Ty.zr24 Ty.un24)) (And.intro (And.intro Ty.sz26 Ty.by26) (And.intro Ty.ag26 Ty.zr26))) (And.intro (And.intro Ty.fl26_0 (And.intro Ty.pl26_0 Ty.fl26_1)) (And.intro (And.intro Ty.pl26_1 Ty.sz27) (And.intro Ty.by27 Ty.ag27)))) (And.intro (And.intro (And.intro Ty.zr27 (And.intro Ty.un27 Ty.sz29)) (And.intro (And.intro Ty.by29 Ty.ag29) (And.intro Ty.zr29 Ty.fl29_0))) (And.intro (And.intro Ty.pl29_0 (And.intro Ty.fl29_1 Ty.pl29_1)) (And.intro (And.intro Ty.fl29_2 Ty.pl29_2) (And.intro Ty.fl29_3 Ty.pl29_3)))))) (And.intro (And.intro (And.intro (And.intro (And.intro Ty.fl29_4 (And.intro Ty.pl29_4 Ty.fl29_5)) (And.intro Ty.pl29_5 (And.intro Ty.fl29_6 Ty.pl29_6))) (And.intro (And.intro Ty.fl29_7 (And.intro Ty.pl29_7 Ty.fl29_8)) (And.intro (And.intro Ty.pl29_8 Ty.sz56) (And.intro Ty.by56 Ty.ag56)))) (And.intro (And.intro (And.intro Ty.zr56 (And.intro Ty.fl56_0 Ty.pl56_0)) (And.intro (And.intro Ty.fl56_1 Ty.pl56_1) (And.intro Ty.fl56_2 Ty.pl56_2))) (And.intro (And.intro Ty.sz58 (And.intro Ty.by58 Ty.ag58)) (And.intro (And.intro Ty.zr58 Ty.fl58_0) (And.intro Ty.pl58_0 Ty.fl58_1))))) (And.intro (And.intro (And.intro (And.intro Ty.pl58_1 (And.intro Ty.fl58_2 Ty.pl58_2)) (And.intro (And.intro Ty.fl58_3 Ty.pl58_3) (And.intro Ty.fl58_4 Ty.pl58_4))) (And.intro (And.intro Ty.sz65 (And.intro Ty.by65 Ty.ag65)) (And.intro (And.intro Ty.zr65 Ty.un65) (And.intro Ty.sz105 Ty.by105)))) (And.intro (And.intro (And.intro Ty.ag105 (And.intro Ty.zr105 Ty.fl105_0)) (And.intro (And.intro Ty.pl105_0 Ty.fl105_1) (And.intro Ty.pl105_1 Ty.sz109))) (And.intro (And.intro Ty.by109 (And.intro Ty.ag109 Ty.zr109)) (And.intro (And.intro Ty.eq23 Ty.eq26) (And.intro Ty.eq105 Ty.cb58)))))))
theorem indexF_ok (l : List Ftr) (s : Str) (b : Nat) (hl : l.length ≤ big) : Ok Tryd.prog 57 [vFtrs l, fnF b] [(b, .c [vstr s])] fun v bs rs => bs = [(b, .c [vstr s])] ∧ rs = [] ∧
    ((findF l s = none ∧ v = vint (-1)) ∨ ∃ i, ∃ h : i < l.length, findF l s = some l[i] ∧ v = vint i) := by
  unfold big at hl
  refine Ok.of_ex Ty.mixed Tryd.func57 rfl (by simp [Tryd.ntmps57]) (by kernel_rfl) fun F w0 I0 => ?_
  simp only [↓rA, rB, Int.reduceEq, Int.reduceLE, Int.reduceLT, Int.reduceToNat, Nat.reduceAdd, Nat.reduceEqDiff, Nat.reduceLT, Nat.reduceLeDiff, Nat.reduceMul, Nat.reduceSub, reduceCtorEq, tbLP2, Tryd.results57]
  refine EX_for Ty.mixed (by kernel_rfl) l.length (fun i S => findF (l.take i) s = none ∧ S.boxes = [(b, .c [vstr s])] ∧ S.rows = [] ∧ S.σ 0 = vFtrs l ∧ S.σ 1 = fnF b ∧ S.σ 7 = vint l.length ∧ S.σ 8 = vint i) ⟨0, ?_⟩ (fun i S hi ⟨hf, gb, gr, g0, g1, g7, g8⟩ => ?_) (fun S ⟨hf, gb, gr, g0, g1, g7, g8⟩ => ?_)
  · simp only [↓rA, rB, Int.reduceEq, Int.reduceLE, Int.reduceLT, Int.reduceToNat, Nat.reduceAdd, Nat.reduceEqDiff, Nat.reduceLT, Nat.reduceLeDiff, Nat.reduceMul, Nat.reduceSub, reduceCtorEq, tbLP2, Tryd.results57, List.length_map]
    try exact rfl
  · have hwi := wrap_succ (i := i) (N := l.length) hi (by omega)
    have hap : findF l s = (findF (l.take i) s).or (findF (l.drop i) s) := by
      unfold findF
      conv => lhs; rw [← List.take_append_drop i l]
      rw [List.find?_append]
    simp only [↓rA, rB, Int.reduceEq, Int.reduceLE, Int.reduceLT, Int.reduceToNat, Nat.reduceAdd, Nat.reduceEqDiff, Nat.reduceLT, Nat.reduceLeDiff, Nat.reduceMul, Nat.reduceSub, reduceCtorEq, tbLP2, Tryd.results57, gb, gr, g0, g1, g7, g8, Int.ofNat_lt, hi, List.length_map, getD_map _ _ _ hi, cFtr_eq]
    have h1 := find1_ok l[i] s b
    rw [cFtr_eq] at h1
    refine OkF_with _ [] (List.Perm.refl _) h1 ?_
    rintro v bs rs ⟨rfl, rfl, rfl⟩
    by_cases e : l[i].name = s
    · simp only [↓rA, rB, Int.reduceEq, Int.reduceLE, Int.reduceLT, Int.reduceToNat, Nat.reduceAdd, Nat.reduceEqDiff, Nat.reduceLT, Nat.reduceLeDiff, Nat.reduceMul, Nat.reduceSub, reduceCtorEq, tbLP2, Tryd.results57, gb, gr, g0, g1, g7, g8, decide_eq_true e]
      exact ⟨_, _, [], Le.refl _, List.Sublist.refl _, List.nil_sublist _, rfl, rfl, .inr ⟨i, hi, by rw [hap, hf, List.drop_eq_getElem_cons hi]; simp only [Option.none_or, findF, List.find?_cons, decide_eq_true e], rfl⟩⟩
    · simp only [↓rA, rB, Int.reduceEq, Int.reduceLE, Int.reduceLT, Int.reduceToNat, Nat.reduceAdd, Nat.reduceEqDiff, Nat.reduceLT, Nat.reduceLeDiff, Nat.reduceMul, Nat.reduceSub, reduceCtorEq, tbLP2, Tryd.results57, gb, gr, g0, g1, g7, g8, decide_eq_false e, hwi]
      refine ⟨0, ?_, rfl⟩
      have : findF (l.take (i + 1)) s = (findF (l.take i) s).or (findF [l[i]] s) := by
        unfold findF
        rw [List.take_succ_eq_append_getElem hi, List.find?_append]
      rw [this, hf]
      simp [findF, e]
  · simp only [↓rA, rB, Int.reduceEq, Int.reduceLE, Int.reduceLT, Int.reduceToNat, Nat.reduceAdd, Nat.reduceEqDiff, Nat.reduceLT, Nat.reduceLeDiff, Nat.reduceMul, Nat.reduceSub, reduceCtorEq, tbLP2, Tryd.results57, gb, gr, g0, g1, g7, g8, Int.ofNat_lt, Nat.lt_irrefl]
    rw [List.take_of_length_le (Nat.le_refl _)] at hf
    exact ⟨_, _, [], Le.refl _, List.Sublist.refl _, List.nil_sublist _, rfl, rfl, .inl ⟨hf, rfl⟩⟩
abbrev ftr0 : Ftr := ⟨es0, es0, ⟨0, [], es0⟩, exp0, 0⟩
abbrev vFind (o : Option Ftr) : V := match o with | some f => .tup [.agg (cFtr f), vbool true] | none => .tup [.agg (cFtr ftr0), vbool false]
set_option linter.defProp false in
def tbLP3 := (And.intro (And.intro (And.intro (And.intro (And.intro (And.intro Ty.sz3 (And.intro Ty.by3 Ty.ag3)) (And.intro Ty.zr3 (And.intro Ty.un3 Ty.sz4))) (And.intro (And.intro Ty.by4 (And.intro Ty.ag4 Ty.zr4)) (And.intro (And.intro Ty.un4 Ty.sz9) (And.intro Ty.by9 Ty.ag9)))) (And.intro (And.intro (And.intro Ty.zr9 (And.intro Ty.un9 Ty.sz23)) (And.intro (And.intro Ty.by23 Ty.ag23) (And.intro Ty.zr23 Ty.fl23_0))) (And.intro (And.intro Ty.pl23_0 (And.intro Ty.fl23_1 Ty.pl23_1)) (And.intro (And.intro Ty.fl23_2 Ty.pl23_2) (And.intro Ty.sz24 Ty.by24))))) (And.intro (And.intro (And.intro (And.intro Ty.ag24 (And.intro Ty.zr24 Ty.un24)) (And.intro (And.intro Ty.sz26 Ty.by26) (And.intro Ty.ag26 Ty.zr26))) (And.intro (And.intro Ty.fl26_0 (And.intro Ty.pl26_0 Ty.fl26_1)) (And.intro (And.intro Ty.pl26_1 Ty.sz27) (And.intro Ty.by27 Ty.ag27)))) (And.intro (And.intro (And.intro Ty.zr27 (And.intro Ty.un27 Ty.sz29)) (And.intro (And.intro Ty.by29 Ty.ag29) (And.intro Ty.zr29 Ty.fl29_0))) (And.intro (And.intro Ty.pl29_0 (And.intro Ty.fl29_1 Ty.pl29_1)) (And.intro (And.intro Ty.fl29_2 Ty.pl29_2) (And.intro Ty.fl29_3 Ty.pl29_3)))))) (And.intro (And.intro (And.intro (And.intro (And.intro Ty.fl29_4 (And.intro Ty.pl29_4 Ty.fl29_5)) (And.intro (And.intro Ty.pl29_5 Ty.fl29_6) (And.intro Ty.pl29_6 Ty.fl29_7))) (And.intro (And.intro Ty.pl29_7 (And.intro Ty.fl29_8 Ty.pl29_8)) (And.intro (And.intro Ty.sz56 Ty.by56) (And.intro Ty.ag56 Ty.zr56)))) (And.intro (And.intro (And.intro Ty.fl56_0 (And.intro Ty.pl56_0 Ty.fl56_1)) (And.intro (And.intro Ty.pl56_1 Ty.fl56_2) (And.intro Ty.pl56_2 Ty.sz58))) (And.intro (And.intro Ty.by58 (And.intro Ty.ag58 Ty.zr58)) (And.intro (And.intro Ty.fl58_0 Ty.pl58_0) (And.intro Ty.fl58_1 Ty.pl58_1))))) (And.intro (And.intro (And.intro (And.intro Ty.fl58_2 (And.intro Ty.pl58_2 Ty.fl58_3)) (And.intro (And.intro Ty.pl58_3 Ty.fl58_4) (And.intro Ty.pl58_4 Ty.sz65))) (And.intro (And.intro Ty.by65 (And.intro Ty.ag65 Ty.zr65)) (And.intro (And.intro Ty.un65 Ty.sz105) (And.intro Ty.by105 Ty.ag105)))) (And.intro (And.intro (And.intro Ty.zr105 (And.intro Ty.fl105_0 Ty.pl105_0)) (And.intro (And.intro Ty.fl105_1 Ty.pl105_1) (And.intro Ty.sz109 Ty.by109))) (And.intro (And.intro Ty.ag109 (And.intro Ty.zr109 Ty.eq23)) (And.intro (And.intro Ty.eq26 Ty.eq105) (And.intro Ty.cb57 Ty.cb58)))))))
theorem find_ok (l : List Ftr) (s : Str) (hl : l.length ≤ big) : OkP Tryd.prog 47 [vFtrs l, vstr s] (vFind (findF l s)) := by
  have hl' := hl
  unfold big at hl'
  refine Ok.of_ex Ty.mixed Tryd.func47 rfl (by simp [Tryd.ntmps47]) (by kernel_rfl) fun F w0 I0 => ?_
  simp only [↓rA, rB, Int.reduceEq, Int.reduceLE, Int.reduceLT, Int.reduceToNat, Nat.reduceAdd, Nat.reduceEqDiff, Nat.reduceLT, Nat.reduceLeDiff, Nat.reduceMul, Nat.reduceSub, reduceCtorEq, tbLP3, Tryd.results47]
  refine fun b3 h3 => ?_; replace h3 := newb h3; try simp only [Nb] at h3
  simp only [↓rA, rB, Int.reduceEq, Int.reduceLE, Int.reduceLT, Int.reduceToNat, Nat.reduceAdd, Nat.reduceEqDiff, Nat.reduceLT, Nat.reduceLeDiff, Nat.reduceMul, Nat.reduceSub, reduceCtorEq, tbLP3, Tryd.results47, h3]
  refine fun b4 h4 => ?_; replace h4 := newb h4; try simp only [Nb] at h4
  simp only [↓rA, rB, Int.reduceEq, Int.reduceLE, Int.reduceLT, Int.reduceToNat, Nat.reduceAdd, Nat.reduceEqDiff, Nat.reduceLT, Nat.reduceLeDiff, Nat.reduceMul, Nat.reduceSub, reduceCtorEq, tbLP3, Tryd.results47, h3, h4]
  refine OkF_with [_] [_] (List.Perm.swap _ _ _) (indexF_ok l s b3 hl) ?_
  rintro v bs rs ⟨rfl, rfl, ⟨hn, rfl⟩ | ⟨i, hi, hs, rfl⟩⟩
  · rw [hn]
    simp only [↓rA, rB, Int.reduceEq, Int.reduceLE, Int.reduceLT, Int.reduceToNat, Nat.reduceAdd, Nat.reduceEqDiff, Nat.reduceLT, Nat.reduceLeDiff, Nat.reduceMul, Nat.reduceSub, reduceCtorEq, tbLP3, Tryd.results47, h3, h4]
    exact ⟨_, [], [], leTup (.cons (leAgg (.cons (Le.refl _) (.cons (Le.refl _) (.cons (Le.refl _) (.cons (Le.nil 2) (.cons (Le.refl _) (.cons (Le.refl _) (.cons (Le.refl _) (.cons (Le.refl _) (.cons (Le.refl _) (.cons (Le.refl _) (.cons (Le.refl _) (.cons (Le.refl _) (.cons (Le.nil 2) (.cons (Le.refl _) (.cons (Le.refl _) (.cons (Le.refl _) (.cons (Le.nil 12) (.cons (Le.refl _) .nil))))))))))))))))))) (.cons (Le.refl _) .nil)), List.nil_sublist _, List.nil_sublist _, rfl, rfl, rfl⟩
  · rw [hs]
    have h0 : (0 : Int) ≤ (i : Int) := by omega
    simp only [↓rA, rB, Int.reduceEq, Int.reduceLE, Int.reduceLT, Int.reduceToNat, Nat.reduceAdd, Nat.reduceEqDiff, Nat.reduceLT, Nat.reduceLeDiff, Nat.reduceMul, Nat.reduceSub, reduceCtorEq, tbLP3, Tryd.results47, h3, h4, h0, Int.ofNat_lt, hi, List.length_map, getD_map _ _ _ hi, cFtr_eq]
    exact ⟨_, [], [], Le.refl _, List.nil_sublist _, List.nil_sublist _, rfl, rfl, rfl⟩
set_option linter.defProp false in
def tbLP4 := (And.intro (And.intro (And.intro (And.intro (And.intro (And.intro (And.intro Ty.sz3 Ty.by3) (And.intro Ty.ag3 Ty.zr3)) (And.intro (And.intro Ty.un3 Ty.sz4) (And.intro Ty.by4 (And.intro Ty.ag4 Ty.zr4)))) (And.intro (And.intro (And.intro Ty.un4 Ty.sz9) (And.intro Ty.by9 (And.intro Ty.ag9 Ty.zr9))) (And.intro (And.intro Ty.un9 Ty.sz23) (And.intro Ty.by23 (And.intro Ty.ag23 Ty.zr23))))) (And.intro (And.intro (And.intro (And.intro Ty.fl23_0 Ty.pl23_0) (And.intro Ty.fl23_1 Ty.pl23_1)) (And.intro (And.intro Ty.fl23_2 Ty.pl23_2) (And.intro Ty.sz24 (And.intro Ty.by24 Ty.ag24)))) (And.intro (And.intro (And.intro Ty.zr24 Ty.un24) (And.intro Ty.sz26 (And.intro Ty.by26 Ty.ag26))) (And.intro (And.intro Ty.zr26 Ty.fl26_0) (And.intro Ty.pl26_0 (And.intro Ty.fl26_1 Ty.pl26_1)))))) (And.intro (And.intro (And.intro (And.intro (And.intro Ty.sz27 Ty.by27) (And.intro Ty.ag27 Ty.zr27)) (And.intro (And.intro Ty.un27 Ty.sz29) (And.intro Ty.by29 (And.intro Ty.ag29 Ty.zr29)))) (And.intro (And.intro (And.intro Ty.fl29_0 Ty.pl29_0) (And.intro Ty.fl29_1 (And.intro Ty.pl29_1 Ty.fl29_2))) (And.intro (And.intro Ty.pl29_2 Ty.fl29_3) (And.intro Ty.pl29_3 (And.intro Ty.fl29_4 Ty.pl29_4))))) (And.intro (And.intro (And.intro (And.intro Ty.fl29_5 Ty.pl29_5) (And.intro Ty.fl29_6 Ty.pl29_6)) (And.intro (And.intro Ty.fl29_7 Ty.pl29_7) (And.intro Ty.fl29_8 (And.intro Ty.pl29_8 Ty.sz56)))) (And.intro (And.intro (And.intro Ty.by56 Ty.ag56) (And.intro Ty.zr56 (And.intro Ty.fl56_0 Ty.pl56_0))) (And.intro (And.intro Ty.fl56_1 Ty.pl56_1) (And.intro Ty.fl56_2 (And.intro Ty.pl56_2 Ty.sz58))))))) (And.intro (And.intro (And.intro (And.intro (And.intro (And.intro Ty.by58 Ty.ag58) (And.intro Ty.zr58 Ty.fl58_0)) (And.intro (And.intro Ty.pl58_0 Ty.fl58_1) (And.intro Ty.pl58_1 (And.intro Ty.fl58_2 Ty.pl58_2)))) (And.intro (And.intro (And.intro Ty.fl58_3 Ty.pl58_3) (And.intro Ty.fl58_4 (And.intro Ty.pl58_4 Ty.sz60))) (And.intro (And.intro Ty.by60 Ty.ag60) (And.intro Ty.zr60 (And.intro Ty.fl60_0 Ty.pl60_0))))) (And.intro (And.intro (And.intro (And.intro Ty.fl60_1 Ty.pl60_1) (And.intro Ty.sz61 Ty.by61)) (And.intro (And.intro Ty.ag61 Ty.zr61) (And.intro Ty.un61 (And.intro Ty.sz63 Ty.by63)))) (And.intro (And.intro (And.intro Ty.ag63 Ty.zr63) (And.intro Ty.fl63_0 (And.intro Ty.pl63_0 Ty.fl63_1))) (And.intro (And.intro Ty.pl63_1 Ty.fl63_2) (And.intro Ty.pl63_2 (And.intro Ty.fl63_3 Ty.pl63_3)))))) (And.intro (And.intro (And.intro (And.intro (And.intro Ty.sz64 Ty.by64) (And.intro Ty.ag64 Ty.zr64)) (And.intro (And.intro Ty.un64 Ty.sz65) (And.intro Ty.by65 (And.intro Ty.ag65 Ty.zr65)))) (And.intro (And.intro (And.intro Ty.un65 Ty.sz67) (And.intro Ty.by67 (And.intro Ty.ag67 Ty.zr67))) (And.intro (And.intro Ty.fl67_0 Ty.pl67_0) (And.intro Ty.fl67_1 (And.intro Ty.pl67_1 Ty.fl67_2))))) (And.intro (And.intro (And.intro (And.intro Ty.pl67_2 Ty.fl67_3) (And.intro Ty.pl67_3 Ty.sz86)) (And.intro (And.intro Ty.by86 Ty.ag86) (And.intro Ty.sz105 (And.intro Ty.by105 Ty.ag105)))) (And.intro (And.intro (And.intro Ty.zr105 Ty.fl105_0) (And.intro Ty.pl105_0 (And.intro Ty.fl105_1 Ty.pl105_1))) (And.intro (And.intro Ty.eq23 Ty.eq26) (And.intro Ty.eq105 (And.intro Ty.cb47 Ty.cb58))))))))
theorem feature_ok (c : Cat) (s : Str) (hl : c.features.length ≤ big) : OkP Tryd.prog 34 [vCat c, vstr s] (vFind (findF c.features s)) := by
  have hq := find_ok c.features s hl
  refine Ok.of_ex Ty.mixed Tryd.func34 rfl (by simp [Tryd.ntmps34]) (by kernel_rfl) fun F w0 I0 => ?_
  simp only [↓rA, rB, Int.reduceEq, Int.reduceLE, Int.reduceLT, Int.reduceToNat, Nat.reduceAdd, Nat.reduceEqDiff, Nat.reduceLT, Nat.reduceLeDiff, Nat.reduceMul, Nat.reduceSub, reduceCtorEq, tbLP4, Tryd.results34]
  refine fun b2 h2 => ?_; replace h2 := newb h2; try simp only [Nb] at h2
  simp only [↓rA, rB, Int.reduceEq, Int.reduceLE, Int.reduceLT, Int.reduceToNat, Nat.reduceAdd, Nat.reduceEqDiff, Nat.reduceLT, Nat.reduceLeDiff, Nat.reduceMul, Nat.reduceSub, reduceCtorEq, tbLP4, Tryd.results34, h2]
  refine fun b4 h4 => ?_; replace h4 := newb h4; try simp only [Nb] at h4
  simp only [↓rA, rB, Int.reduceEq, Int.reduceLE, Int.reduceLT, Int.reduceToNat, Nat.reduceAdd, Nat.reduceEqDiff, Nat.reduceLT, Nat.reduceLeDiff, Nat.reduceMul, Nat.reduceSub, reduceCtorEq, tbLP4, Tryd.results34, h2, h4]
  refine OkF_of _ hq ?_
  cases findF c.features s with
  | none =>
    simp only [vFind, cFtr_eq]
    simp only [↓rA, rB, Int.reduceEq, Int.reduceLE, Int.reduceLT, Int.reduceToNat, Nat.reduceAdd, Nat.reduceEqDiff, Nat.reduceLT, Nat.reduceLeDiff, Nat.reduceMul, Nat.reduceSub, reduceCtorEq, tbLP4, Tryd.results34, h2, h4]
    exact ret_done rfl
  | some f =>
    simp only [vFind, cFtr_eq]
    simp only [↓rA, rB, Int.reduceEq, Int.reduceLE, Int.reduceLT, Int.reduceToNat, Nat.reduceAdd, Nat.reduceEqDiff, Nat.reduceLT, Nat.reduceLeDiff, Nat.reduceMul, Nat.reduceSub, reduceCtorEq, tbLP4, Tryd.results34, h2, h4]
    exact ret_done rfl
end Go.Proofs.YtphkmlogjgeipaaDoor

/- SlLaysN.n54, laid here (printed by lay.py). -/
namespace Go.Proofs
open Go.Shelf
def Tryd.sortS_ren : Go.Shelf.Ren := ⟨fun | 54 => 55 | 64 => 66 | 65 => 65 | 78 => 80 | 79 => 81 | 80 => 71 | 81 => 72 | 82 => 73 | 83 => 74 | 84 => 75 | 85 => 76 | 61 => 77 | 86 => 78 | 87 => 79 | 93 => 83 | 89 => 84 | 90 => 85 | 94 => 86 | 95 => 87 | 69 => 88 | 97 => 90 | n => n, fun | 25 => 82 | 26 => 9 | 3 => 3 | 51 => 117 | 0 => 0 | 67 => 130 | 69 => 132 | 4 => 4 | 61 => 123 | 60 => 122 | 44 => 127 | 5 => 5 | 9 => 9 | 75 => 134 | 79 => 138 | 83 => 140 | 84 => 37 | n => n, fun | n => n⟩
theorem Tryd.sortS : Go.Proofs.SlLaysN.n54 Tryd.prog Tryd.sortS_ren := {
  mixed := by kernel_rfl
  f54 := ⟨Tryd.f55.name, by decide, Tryd.func55.trans (congrArg some (by kernel_rfl))⟩
  f61 := ⟨Tryd.f77.name, by decide, Tryd.func77.trans (congrArg some (by kernel_rfl))⟩
  f64 := Tryd.func66.trans (congrArg some (by kernel_rfl))
  f65 := ⟨Tryd.f65.name, by decide, Tryd.func65.trans (congrArg some (by kernel_rfl))⟩
  f69 := ⟨Tryd.f88.name, by decide, Tryd.func88.trans (congrArg some (by kernel_rfl))⟩
  f78 := Tryd.func80.trans (congrArg some (by kernel_rfl))
  f79 := Tryd.func81.trans (congrArg some (by kernel_rfl))
  f80 := ⟨Tryd.f71.name, by decide, Tryd.func71.trans (congrArg some (by kernel_rfl))⟩
  f81 := ⟨Tryd.f72.name, by decide, Tryd.func72.trans (congrArg some (by kernel_rfl))⟩
  f82 := ⟨Tryd.f73.name, by decide, Tryd.func73.trans (congrArg some (by kernel_rfl))⟩
  f83 := ⟨Tryd.f74.name, by decide, Tryd.func74.trans (congrArg some (by kernel_rfl))⟩
  f84 := ⟨Tryd.f75.name, by decide, Tryd.func75.trans (congrArg some (by kernel_rfl))⟩
  f85 := ⟨Tryd.f76.name, by decide, Tryd.func76.trans (congrArg some (by kernel_rfl))⟩
  f86 := ⟨Tryd.f78.name, by decide, Tryd.func78.trans (congrArg some (by kernel_rfl))⟩
  f87 := ⟨Tryd.f79.name, by decide, Tryd.func79.trans (congrArg some (by kernel_rfl))⟩
  f89 := Tryd.func84.trans (congrArg some (by kernel_rfl))
  f90 := Tryd.func85.trans (congrArg some (by kernel_rfl))
  f93 := ⟨Tryd.f83.name, by decide, Tryd.func83.trans (congrArg some (by kernel_rfl))⟩
  f94 := ⟨Tryd.f86.name, by decide, Tryd.func86.trans (congrArg some (by kernel_rfl))⟩
  f95 := ⟨Tryd.f87.name, by decide, Tryd.func87.trans (congrArg some (by kernel_rfl))⟩
  f97 := ⟨Tryd.f90.name, by decide, Tryd.func90.trans (congrArg some (by kernel_rfl))⟩
  t0 := Tryd.underlying0
  a0 := Tryd.isAgg0
  z0 := Tryd.sizeOf0
  v0 := Tryd.zeroValue0
  t3 := Tryd.underlying3
  a3 := Tryd.isAgg3
  z3 := Tryd.sizeOf3
  v3 := Tryd.zeroValue3
  t4 := Tryd.underlying4
  a4 := Tryd.isAgg4
  z4 := Tryd.sizeOf4
  v4 := Tryd.zeroValue4
  t5 := Tryd.underlying5
  a5 := Tryd.isAgg5
  z5 := Tryd.sizeOf5
  v5 := Tryd.zeroValue5
  t9 := Tryd.underlying9
  a9 := Tryd.isAgg9
  z9 := Tryd.sizeOf9
  v9 := Tryd.zeroValue9
  t25 := Tryd.underlying82
  a25 := Tryd.isAgg82
  z25 := Tryd.sizeOf82
  v25 := Tryd.zeroValue82
  t26 := Tryd.underlying9
  a26 := Tryd.isAgg9
  z26 := Tryd.sizeOf9
  v26 := Tryd.zeroValue9
  t44 := Tryd.underlying127
  a44 := Tryd.isAgg127
  z44 := Tryd.sizeOf127
  v44 := Tryd.zeroValue127
  t51 := Tryd.underlying117
  a51 := Tryd.isAgg117
  z51 := Tryd.sizeOf117
  v51 := Tryd.zeroValue117
  t60 := Tryd.underlying122
  a60 := Tryd.isAgg122
  z60 := Tryd.sizeOf122
  v60 := Tryd.zeroValue122
  t61 := Tryd.underlying123
  a61 := Tryd.isAgg123
  z61 := Tryd.sizeOf123
  v61 := Tryd.zeroValue123
  t67 := Tryd.underlying130
  a67 := Tryd.isAgg130
  z67 := Tryd.sizeOf130
  v67 := Tryd.zeroValue130
  t69 := Tryd.underlying132
  a69 := Tryd.isAgg132
  z69 := Tryd.sizeOf132
  v69 := Tryd.zeroValue132
  t75 := Tryd.underlying134
  a75 := Tryd.isAgg134
  z75 := Tryd.sizeOf134
  v75 := Tryd.zeroValue134
  t79 := Tryd.underlying138
  a79 := Tryd.isAgg138
  z79 := Tryd.sizeOf138
  v79 := Tryd.zeroValue138
  t83 := Tryd.underlying140
  a83 := Tryd.isAgg140
  z83 := Tryd.sizeOf140
  v83 := Tryd.zeroValue140
  t84 := Tryd.underlying37
  a84 := Tryd.isAgg37
  z84 := Tryd.sizeOf37
  v84 := Tryd.zeroValue37 }
end Go.Proofs

/- Contracts of lowering, part m: the keys of a set of at most one string, sorted. -/
set_option linter.unusedSimpArgs false
set_option maxRecDepth 100000
namespace Go.VL
open Go.RowKit Go.Sort Go.Shelf Go.Lib Go.Proofs
theorem putCells_same {α : Type} {enc : α → Value} (d : Array α) (arr : Array Value) (h : ∀ j (hj : j < d.size), arr[j]? = some (enc d[j])) [Inhabited α] : putCells enc 0 d arr = arr := by
  refine Array.ext (by simp [putCells]) fun t h1 h2 => ?_
  simp only [putCells, Array.getElem_mapIdx, Nat.zero_add, Nat.zero_le, true_and, Nat.sub_zero]
  by_cases hF : t < d.size
  · rw [if_pos hF, getElem!_pos d t hF]
    have := h t hF
    rw [Array.getElem?_eq_getElem h2] at this
    exact (Option.some.inj this).symm
  · rw [if_neg hF]
theorem mapBlock_same {w : World} {b : Nat} {f : Array Value → Array Value} {arr : Array Value} {te : TypeId} {s : Nat × Nat} (hb : w.heap[b]? = some (.cells arr te s)) (hf : f arr = arr) : mapBlock w b f = w := by
  have hh : (mapBlock w b f).heap = w.heap := by
    apply Array.ext_getElem?
    intro i
    unfold mapBlock
    simp only []
    rw [Array.getElem?_modify]
    by_cases e : b = i
    · subst e
      rw [if_pos rfl, hb]
      simp [hf, onCells]
    · rw [if_neg e]
  unfold mapBlock at hh ⊢
  simp only [] at hh
  rw [hh]
theorem grow_keeps {F : Nat → Prop} {w : World} {I : Cells} (n : Nat) (os : Array Obj) (hF : ∀ b', F b' → b' < w.heap.size) (hin : ∀ b' o, I b' o → b' < w.heap.size) : Keeps F w I (grow (Go.Sort.ahead w n) os) I := by
  have hx : ∀ b', b' < w.heap.size → (grow (Go.Sort.ahead w n) os).heap[b']? = w.heap[b']? := fun b' h => by
    unfold grow Go.Sort.ahead
    simp only []
    rw [Array.getElem?_append_left h]
  refine ⟨rfl, rfl, rfl, ?_, fun b' hb' => hx b' (hF b' hb'), ⟨fun b' o hi => ⟨hi, by simp only [World.cell?, hx b' (hin b' o hi)]⟩, fun b' x h => by rw [hx b' (Array.getElem?_eq_some_iff.1 h).1]; exact h⟩, fun _ _ _ h => h, ?_⟩
  · unfold grow Go.Sort.ahead
    simp
  · unfold grow Go.Sort.ahead
    simp
/-- slices.Sort at one string leaves it. -/
theorem Ok.sortStr1 {P : Program} {ρ : Ren} (L : SlLaysN.n54 P ρ) (k : ByteArray) (rest : List V) (b cap : Nat) :
    Ok P (ρ.f 54) [.lit (.slice (some ⟨b, 0, none⟩) 1 cap)] [(b, .c (.lit (.string k) :: rest))] fun v bs rs => v = .tup [] ∧ bs = [(b, .c (.lit (.string k) :: rest))] ∧ rs = [] := by
  intro w I xs hr hH
  obtain rfl : xs = [.slice (some ⟨b, 0, none⟩) 1 cap] := by
    match xs, hr with
    | [x], hr => simp only [V.reps, V.rep, and_true] at hr; rw [hr]
    | [], hr => simp [V.reps] at hr
    | _ :: _ :: _, hr => simp [V.reps] at hr
  obtain ⟨arr, te, q1, q2, q3, q4⟩ := hH.bx _ (List.mem_singleton.2 rfl)
  have hblk : b < w.heap.size := (Array.getElem?_eq_some_iff.1 q1).1
  have h0 : arr[0]? = some (.string k) := by
    cases ha : arr.toList with
    | nil => rw [ha] at q3; simp [V.reps] at q3
    | cons x r =>
      rw [ha] at q3
      simp only [V.reps, V.rep] at q3
      rw [← Array.getElem?_toList, ha]
      simp [q3.1]
  have he : encStr k.data.toList = .string k := by
    unfold encStr
    congr 1
  have hv : ∀ j (hj : j < ([k.data.toList] : List (List UInt8)).toArray.size), arr[j]? = some (encStr ([k.data.toList] : List (List UInt8)).toArray[j]) := by
    intro j hj
    have : j = 0 := by simpa using hj
    subst this
    simpa [he] using h0
  have hHo : Holds encStr w b 0 ([k.data.toList] : List (List UInt8)).toArray := by
    intro j hj
    have h := hv j hj
    rw [getElem!_pos _ j hj]
    constructor
    · simp only [World.cell?, q1, Nat.zero_add]; simpa using h
    · have hlt := (Array.getElem?_eq_some_iff.1 h).1
      simp [World.frozen?, q1]
  refine (AnyG.slices_Sort_string L b 0 cap [k.data.toList] w hHo hblk (by simp)).mono fun e w' ⟨he', n, os, hw⟩ => ?_
  have hm : ([k.data.toList] : List (List UInt8)).mergeSort (fun x y => decide (x ≤ y)) = [k.data.toList] := by simp [List.mergeSort]
  rw [hm] at hw
  have hp : putRow encStr (Go.Sort.ahead w n) b 0 ([k.data.toList] : List (List UInt8)).toArray = Go.Sort.ahead w n := by
    unfold putRow
    exact mapBlock_same (arr := arr) (te := te) (s := (0, 0)) q1 (putCells_same _ _ hv)
  rw [hp] at hw
  subst hw
  have hK : Keeps (fun b' => b' < w.heap.size) w I (grow (Go.Sort.ahead w n) os) I := grow_keeps n os (fun _ h => h) hH.inn
  refine ⟨.tuple #[], .tup [], [(b, .c (.lit (.string k) :: rest))], [], I, he', by simp only [V.rep]; exact ⟨#[], rfl, by simp [V.reps]⟩, hK.mono fun b' hb' => hb'.1, ⟨fun p hp' => ?_, by simp, by simp [blks], fun b' o hi => Nat.lt_of_lt_of_le (hH.inn b' o hi) hK.size, hH.glob.mono hK.stays⟩, fun b' hb' h => h.2 (by simpa [blks] using hb'), rfl, rfl, rfl⟩
  rw [List.mem_singleton.1 hp']
  refine ⟨arr, te, ?_, q2, V.reps_mono hK.stays _ _ q3, q4⟩
  rw [hK.block b hblk]; exact q1
theorem Ok.sortStrNil {P : Program} {ρ : Ren} (L : SlLaysN.n54 P ρ) (cap : Nat) : OkP P (ρ.f 54) [.lit (.slice none 0 cap)] (.tup []) := by
  intro w I xs hr hH
  obtain rfl : xs = [.slice none 0 cap] := by
    match xs, hr with
    | [x], hr => simp only [V.reps, V.rep, and_true] at hr; rw [hr]
    | [], hr => simp [V.reps] at hr
    | _ :: _ :: _, hr => simp [V.reps] at hr
  refine (AnyG.slices_Sort_string_none L none cap w).mono fun e w' ⟨he, hw⟩ => ?_
  subst hw
  exact ⟨_, .tup [], [], [], I, he, by simp only [V.rep]; exact ⟨#[], rfl, by simp [V.reps]⟩, Keeps.refl _ _ _, hH, by simp [blks], rfl, rfl, rfl⟩
end Go.VL
namespace Go.Proofs.YtphkmlogjgeipaaDoor
open Go.VL Go.Ar Go.Lo Go.Proofs.YtphkmlogjgeipaaDoor

theorem sort1_ok (k : Str) (rest : List V) (b cap : Nat) : Ok Tryd.prog 55 [.lit (.slice (some ⟨b, 0, none⟩) 1 cap)] [(b, .c (vstr k :: rest))] fun v bs rs => v = .tup [] ∧ bs = [(b, .c (vstr k :: rest))] ∧ rs = [] := Ok.sortStr1 Tryd.sortS k rest b cap
theorem sort0_ok : OkP Tryd.prog 55 [nilS] (.tup []) := Ok.sortStrNil Tryd.sortS 0
end Go.Proofs.YtphkmlogjgeipaaDoor

/- Contracts of lowering, part n: slices.Sorted(maps.Keys(m)) of a set of at most one string. -/
set_option linter.unusedSimpArgs false
set_option maxRecDepth 100000
-- @call 56
namespace Go.VL
theorem EX_whileP {C : Ctx} {c : Code} {k : List It} {S : St} {Q : Exit → St → Prop} {α : Type} (hm : C.P.follows .mixedOrders = true) (hk : okCode C.N C.M c = true) (μ : α → Nat) (T : α → St → Prop) (x : α) (h0 : LoseP (T x) S)
    (round : ∀ x S, T x S → EX C (.code c :: .stop (fun S' => ∃ y, μ y < μ x ∧ LoseP (T y) S') :: k) S Q) : AWP C (.loop c) S (contQ C k Q) := by
  have lp : ∀ {A B : St → Prop} {S}, (∀ S, A S → B S) → LoseP A S → LoseP B S := fun hab ⟨bs, rs, bs', rs', h1, h2, h3, h4, h⟩ => ⟨bs, rs, bs', rs', h1, h2, h3, h4, hab _ h⟩
  refine AWP.loopP (fun m S => ∃ x, μ x = m ∧ T x S) (μ x) (lp (fun S h => ⟨x, rfl, h⟩) h0) fun m S ⟨x, hx, hT⟩ => ?_
  subst hx
  refine cwp_spec hm c S _ hk (cwp_mono (fun e S' h' => ?_) (show cwp C c S _ from round x S hT))
  cases e <;> first | exact h' | (obtain ⟨y, hy, h'⟩ := h'; exact ⟨μ y, hy, lp (fun S h => ⟨y, rfl, h⟩) h'⟩)
end Go.VL
namespace Go.Proofs.YtphkmlogjgeipaaDoor
open Go.VL Go.Ar Go.Lo Go.Proofs.YtphkmlogjgeipaaDoor

abbrev mp (b : Nat) : V := .lit (.map (some b))
theorem left0 : leftE (entS 0 []) [] = [] := rfl
theorem left1 (k : Str) : leftE (entS 0 [k]) [] = [(0, .string k, vbool true)] := by simp [leftE, entS]
theorem left2 (k : Str) : leftE (entS 0 [k]) [0] = [] := by simp [leftE, entS]
set_option linter.defProp false in
def tbLU0 := (And.intro (And.intro (And.intro (And.intro Ty.sz4 Ty.by4) (And.intro Ty.ag4 (And.intro Ty.zr4 Ty.un4))) (And.intro (And.intro Ty.sz9 Ty.by9) (And.intro Ty.ag9 (And.intro Ty.zr9 Ty.un9)))) (And.intro (And.intro (And.intro Ty.sz94 Ty.by94) (And.intro Ty.ag94 (And.intro Ty.zr94 Ty.un94))) (And.intro (And.intro Ty.sz103 (And.intro Ty.by103 Ty.ag103)) (And.intro Ty.zr103 (And.intro Ty.mp94 Ty.cb56)))))
theorem iter0 (y b1 bm : Nat) (hb : b1 ≠ bm ∧ bm ≠ b1) (J : List (Nat × B)) : Ok Tryd.prog 56 [.lit (.func (.yield y) #[] #[]), ptr b1] ((b1, .c [mp bm]) :: (bm, mS []) :: J) fun v bs rs => v = .tup [] ∧ bs = (b1, .c [mp bm]) :: (bm, mS []) :: J ∧ rs = [] := by
  refine Ok.of_ex Ty.mixed Tryd.func56 rfl (by simp [Tryd.ntmps56]) (by kernel_rfl) fun F w0 I0 => ?_
  simp only [↓rA, rB, Int.reduceEq, Int.reduceLE, Int.reduceLT, Int.reduceToNat, Nat.reduceAdd, Nat.reduceEqDiff, Nat.reduceLT, Nat.reduceLeDiff, Nat.reduceMul, Nat.reduceSub, reduceCtorEq, tbLU0, Tryd.results56, hb]
  refine fun ib hi => ?_; replace hi := newb hi; try simp only [Nb] at hi
  simp only [↓rA, rB, Int.reduceEq, Int.reduceLE, Int.reduceLT, Int.reduceToNat, Nat.reduceAdd, Nat.reduceEqDiff, Nat.reduceLT, Nat.reduceLeDiff, Nat.reduceMul, Nat.reduceSub, reduceCtorEq, tbLU0, Tryd.results56, hb, hi]
  refine EX_whileP Ty.mixed (by kernel_rfl) (fun _ : Nat => 0) (fun _ S => S.boxes = (ib, .it bm 0 [] 0) :: (b1, .c [mp bm]) :: (bm, mS []) :: J ∧ S.rows = [] ∧ S.σ 5 = ptr ib) 0 ⟨_, _, _, _, List.Sublist.refl _, List.Sublist.refl _, List.Perm.refl _, List.Perm.refl _, ?_⟩ (fun _ S ⟨gb, gr, g5⟩ => ?_)
  · simp only [↓rA, rB, Int.reduceEq, Int.reduceLE, Int.reduceLT, Int.reduceToNat, Nat.reduceAdd, Nat.reduceEqDiff, Nat.reduceLT, Nat.reduceLeDiff, Nat.reduceMul, Nat.reduceSub, reduceCtorEq, tbLU0, Tryd.results56, hb, hi]
  · simp only [↓rA, rB, Int.reduceEq, Int.reduceLE, Int.reduceLT, Int.reduceToNat, Nat.reduceAdd, Nat.reduceEqDiff, Nat.reduceLT, Nat.reduceLeDiff, Nat.reduceMul, Nat.reduceSub, reduceCtorEq, tbLU0, Tryd.results56, gb, gr, g5, hb, hi]
    refine ⟨fun _ => ?_, fun e he => ?_⟩
    · simp only [↓rA, rB, Int.reduceEq, Int.reduceLE, Int.reduceLT, Int.reduceToNat, Nat.reduceAdd, Nat.reduceEqDiff, Nat.reduceLT, Nat.reduceLeDiff, Nat.reduceMul, Nat.reduceSub, reduceCtorEq, tbLU0, Tryd.results56, gb, gr, g5, hb, hi]
      exact ⟨_, _, [], Le.refl _, List.Sublist.cons _ (List.Sublist.refl _), List.nil_sublist _, rfl, rfl, rfl⟩
    · rw [left0] at he; cases he
set_option linter.defProp false in
def tbLU1 := (And.intro (And.intro (And.intro (And.intro Ty.sz4 Ty.by4) (And.intro Ty.ag4 (And.intro Ty.zr4 Ty.un4))) (And.intro (And.intro Ty.sz9 Ty.by9) (And.intro Ty.ag9 (And.intro Ty.zr9 Ty.un9)))) (And.intro (And.intro (And.intro Ty.sz94 Ty.by94) (And.intro Ty.ag94 (And.intro Ty.zr94 Ty.un94))) (And.intro (And.intro Ty.sz103 (And.intro Ty.by103 Ty.ag103)) (And.intro Ty.zr103 (And.intro Ty.mp94 Ty.cb56)))))
theorem iter1 (k : Str) (y b1 bm : Nat) (hb : b1 ≠ bm ∧ bm ≠ b1) (J0 : List (Nat × B)) (J1 : List (Nat × B) → Prop) (hY : OkY Tryd.prog y [vstr k] J0 fun v bs rs => v = vbool true ∧ J1 bs ∧ rs = []) :
    Ok Tryd.prog 56 [.lit (.func (.yield y) #[] #[]), ptr b1] ((b1, .c [mp bm]) :: (bm, mS [k]) :: J0) fun v bs rs => v = .tup [] ∧ (∃ Jn, J1 Jn ∧ bs = (b1, .c [mp bm]) :: (bm, mS [k]) :: Jn) ∧ rs = [] := by
  refine Ok.of_ex Ty.mixed Tryd.func56 rfl (by simp [Tryd.ntmps56]) (by kernel_rfl) fun F w0 I0 => ?_
  simp only [↓rA, rB, Int.reduceEq, Int.reduceLE, Int.reduceLT, Int.reduceToNat, Nat.reduceAdd, Nat.reduceEqDiff, Nat.reduceLT, Nat.reduceLeDiff, Nat.reduceMul, Nat.reduceSub, reduceCtorEq, tbLU1, Tryd.results56, hb]
  refine fun ib hi => ?_; replace hi := newb hi; try simp only [Nb] at hi
  simp only [↓rA, rB, Int.reduceEq, Int.reduceLE, Int.reduceLT, Int.reduceToNat, Nat.reduceAdd, Nat.reduceEqDiff, Nat.reduceLT, Nat.reduceLeDiff, Nat.reduceMul, Nat.reduceSub, reduceCtorEq, tbLU1, Tryd.results56, hb, hi]
  refine EX_whileP Ty.mixed (by kernel_rfl) (fun x : Bool => if x then 0 else 1) (fun x S => (if x = true then ∃ Jn, J1 Jn ∧ S.boxes = (ib, .it bm 1 [0] 1) :: (b1, .c [mp bm]) :: (bm, mS [k]) :: Jn else S.boxes = (ib, .it bm 1 [] 1) :: (b1, .c [mp bm]) :: (bm, mS [k]) :: J0) ∧ S.rows = [] ∧ S.σ 0 = .lit (.func (.yield y) #[] #[]) ∧ S.σ 5 = ptr ib) false ⟨_, _, _, _, List.Sublist.refl _, List.Sublist.refl _, List.Perm.refl _, List.Perm.refl _, ?_⟩ (fun x S ⟨gx, gr, g0, g5⟩ => ?_)
  · simp only [↓rA, rB, Int.reduceEq, Int.reduceLE, Int.reduceLT, Int.reduceToNat, Nat.reduceAdd, Nat.reduceEqDiff, Nat.reduceLT, Nat.reduceLeDiff, Nat.reduceMul, Nat.reduceSub, reduceCtorEq, tbLU1, Tryd.results56, hb, hi]
  · cases x with
    | false =>
      simp only [Bool.false_eq_true, if_false] at gx
      simp only [↓rA, rB, Int.reduceEq, Int.reduceLE, Int.reduceLT, Int.reduceToNat, Nat.reduceAdd, Nat.reduceEqDiff, Nat.reduceLT, Nat.reduceLeDiff, Nat.reduceMul, Nat.reduceSub, reduceCtorEq, tbLU1, Tryd.results56, gx, gr, g0, g5, hb, hi]
      refine ⟨fun h => ?_, fun e he hf => ?_⟩
      · rw [left1] at h; cases h
      · rw [left1] at he
        obtain rfl := List.mem_singleton.1 he
        simp only at hf
        simp only [↓rA, rB, Int.reduceEq, Int.reduceLE, Int.reduceLT, Int.reduceToNat, Nat.reduceAdd, Nat.reduceEqDiff, Nat.reduceLT, Nat.reduceLeDiff, Nat.reduceMul, Nat.reduceSub, reduceCtorEq, tbLU1, Tryd.results56, gx, gr, g0, g5, hb, hi, hf, List.getLast?_singleton]
        refine OkYF_with J0 [(ib, .it bm 1 [0] 1), (b1, .c [mp bm]), (bm, mS [k])] (List.perm_append_comm (l₁ := [(ib, B.it bm 1 [0] 1), (b1, B.c [mp bm]), (bm, mS [k])]) (l₂ := J0)) hY ?_
        rintro v Jn rs ⟨rfl, hJn, rfl⟩ _
        simp only [↓rA, rB, Int.reduceEq, Int.reduceLE, Int.reduceLT, Int.reduceToNat, Nat.reduceAdd, Nat.reduceEqDiff, Nat.reduceLT, Nat.reduceLeDiff, Nat.reduceMul, Nat.reduceSub, reduceCtorEq, tbLU1, Tryd.results56, gr, g0, g5, hb, hi]
        refine ⟨true, by decide, _, _, _, _, List.Sublist.refl _, List.Sublist.refl _, List.perm_append_comm, List.Perm.refl _, ?_⟩
        simp only [↓rA, rB, Int.reduceEq, Int.reduceLE, Int.reduceLT, Int.reduceToNat, Nat.reduceAdd, Nat.reduceEqDiff, Nat.reduceLT, Nat.reduceLeDiff, Nat.reduceMul, Nat.reduceSub, reduceCtorEq, tbLU1, Tryd.results56, gr, g0, g5, hb, hi]
        exact ⟨Jn, hJn, rfl⟩
    | true =>
      simp only [if_true] at gx
      obtain ⟨Jn, hJ, gb⟩ := gx
      simp only [↓rA, rB, Int.reduceEq, Int.reduceLE, Int.reduceLT, Int.reduceToNat, Nat.reduceAdd, Nat.reduceEqDiff, Nat.reduceLT, Nat.reduceLeDiff, Nat.reduceMul, Nat.reduceSub, reduceCtorEq, tbLU1, Tryd.results56, gb, gr, g0, g5, hb, hi]
      refine ⟨fun _ => ?_, fun e he => ?_⟩
      · simp only [↓rA, rB, Int.reduceEq, Int.reduceLE, Int.reduceLT, Int.reduceToNat, Nat.reduceAdd, Nat.reduceEqDiff, Nat.reduceLT, Nat.reduceLeDiff, Nat.reduceMul, Nat.reduceSub, reduceCtorEq, tbLU1, Tryd.results56, gb, gr, g0, g5, hb, hi]
        exact ⟨_, _, [], Le.refl _, List.Sublist.cons _ (List.Sublist.refl _), List.nil_sublist _, rfl, ⟨Jn, hJ, rfl⟩, rfl⟩
      · rw [left2] at he; cases he

abbrev fnK (b1 : Nat) : V := .lit (.func (.func 56) #[] #[.pointer (some ⟨b1, 0, none⟩)])
set_option linter.defProp false in
def tbLU2 := (And.intro (And.intro (And.intro Ty.sz9 (And.intro Ty.by9 Ty.ag9)) (And.intro (And.intro Ty.zr9 Ty.un9) (And.intro Ty.sz82 Ty.by82))) (And.intro (And.intro (And.intro Ty.ag82 Ty.zr82) (And.intro Ty.un82 Ty.sz98)) (And.intro (And.intro Ty.by98 Ty.ag98) (And.intro Ty.zr98 Ty.cb56))))
theorem appendSeq0 (b1 bm : Nat) (hb : b1 ≠ bm ∧ bm ≠ b1) : Ok Tryd.prog 64 [nilS, fnK b1] [(b1, .c [mp bm]), (bm, mS [])] fun v bs rs => v = nilS ∧ bs = [(b1, .c [mp bm]), (bm, mS [])] ∧ rs = [] := by
  refine Ok.of_ex Ty.mixed Tryd.func64 rfl (by simp [Tryd.ntmps64]) (by kernel_rfl) fun F w0 I0 => ?_
  simp only [↓rA, rB, Int.reduceEq, Int.reduceLE, Int.reduceLT, Int.reduceToNat, Nat.reduceAdd, Nat.reduceEqDiff, Nat.reduceLT, Nat.reduceLeDiff, Nat.reduceMul, Nat.reduceSub, reduceCtorEq, tbLU2, Tryd.results64]
  refine fun b2 h2 => ?_; replace h2 := newb h2; try simp only [Nb] at h2
  simp only [↓rA, rB, Int.reduceEq, Int.reduceLE, Int.reduceLT, Int.reduceToNat, Nat.reduceAdd, Nat.reduceEqDiff, Nat.reduceLT, Nat.reduceLeDiff, Nat.reduceMul, Nat.reduceSub, reduceCtorEq, tbLU2, Tryd.results64, h2]
  refine EX_rangeFunc rfl (gf := 56) (first := #[]) (cap := #[.pointer (some ⟨b1, 0, none⟩)]) rfl Ty.cb56 [(b2, .c [nilS]), (b1, .c [mp bm]), (bm, mS [])] [] (by rw [List.append_nil]; exact List.Perm.refl _)
    (fun l r v bs rs => rs = [] ∧ bs = [(l, .obj (.loop r)), (b2, .c [nilS]), (b1, .c [mp bm]), (bm, mS [])]) ?_ ?_
  · intro l r hfr hrec hpa has hbo
    refine Ok.permR (Ok.permL (iter0 l b1 bm hb [(l, .obj (.loop r)), (b2, .c [nilS])]) ?_) fun v bs rs ⟨h1, h2, h3⟩ => ⟨_, ?_, h3, rfl⟩
    · exact List.perm_append_comm (l₁ := [(l, B.obj (.loop r)), (b2, B.c [nilS])]) (l₂ := [(b1, B.c [mp bm]), (bm, mS [])])
    · rw [h2]
      exact List.perm_append_comm (l₁ := [(b1, B.c [mp bm]), (bm, mS [])]) (l₂ := [(l, B.obj (.loop r)), (b2, B.c [nilS])])
  · intro l r v bs rs hrec ⟨h1, h3⟩
    subst h1 h3
    refine ⟨_, rfl, fun _ => ?_⟩
    simp only [↓rA, rB, Int.reduceEq, Int.reduceLE, Int.reduceLT, Int.reduceToNat, Nat.reduceAdd, Nat.reduceEqDiff, Nat.reduceLT, Nat.reduceLeDiff, Nat.reduceMul, Nat.reduceSub, reduceCtorEq, tbLU2, Tryd.results64, h2]
    exact ⟨_, [_, _], [], Le.refl _, List.Sublist.cons _ (List.Sublist.refl _), List.nil_sublist _, rfl, rfl, rfl⟩
set_option linter.defProp false in
def tbLU3 := (And.intro (And.intro (And.intro Ty.sz9 (And.intro Ty.by9 Ty.ag9)) (And.intro (And.intro Ty.zr9 Ty.un9) (And.intro Ty.sz82 Ty.by82))) (And.intro (And.intro (And.intro Ty.ag82 Ty.zr82) (And.intro Ty.un82 Ty.sz98)) (And.intro (And.intro Ty.by98 Ty.ag98) (And.intro Ty.zr98 Ty.cb56))))
theorem appendSeq1 (k : Str) (b1 bm : Nat) (hb : b1 ≠ bm ∧ bm ≠ b1) : Ok Tryd.prog 64 [nilS, fnK b1] [(b1, .c [mp bm]), (bm, mS [k])] fun v bs rs =>
    ∃ b c, 1 ≤ c ∧ v = .lit (.slice (some ⟨b, 0, none⟩) 1 c) ∧ bs = [(b, .c (vstr k :: anys (c - 1))), (b1, .c [mp bm]), (bm, mS [k])] ∧ rs = [] := by
  refine Ok.of_ex Ty.mixed Tryd.func64 rfl (by simp [Tryd.ntmps64]) (by kernel_rfl) fun F w0 I0 => ?_
  simp only [↓rA, rB, Int.reduceEq, Int.reduceLE, Int.reduceLT, Int.reduceToNat, Nat.reduceAdd, Nat.reduceEqDiff, Nat.reduceLT, Nat.reduceLeDiff, Nat.reduceMul, Nat.reduceSub, reduceCtorEq, tbLU3, Tryd.results64]
  refine fun b2 h2 => ?_; replace h2 := newb h2; try simp only [Nb] at h2
  simp only [↓rA, rB, Int.reduceEq, Int.reduceLE, Int.reduceLT, Int.reduceToNat, Nat.reduceAdd, Nat.reduceEqDiff, Nat.reduceLT, Nat.reduceLeDiff, Nat.reduceMul, Nat.reduceSub, reduceCtorEq, tbLU3, Tryd.results64, h2]
  refine EX_rangeFunc rfl (gf := 56) (first := #[]) (cap := #[.pointer (some ⟨b1, 0, none⟩)]) rfl Ty.cb56 [(b2, .c [nilS]), (b1, .c [mp bm]), (bm, mS [k])] [] (by rw [List.append_nil]; exact List.Perm.refl _)
    (fun l r v bs rs => rs = [] ∧ ∃ b c, 1 ≤ c ∧ (b ≠ b2 ∧ b2 ≠ b) ∧ bs = [(l, .obj (.loop r)), (b, .c (vstr k :: anys (c - 1))), (b2, .c [.lit (.slice (some ⟨b, 0, none⟩) 1 c)]), (b1, .c [mp bm]), (bm, mS [k])]) ?_ ?_
  · intro l r hfr hrec hpa has hbo
    have hlb : l ≠ b2 ∧ b2 ≠ l := by
      simp only [↓rA, rB, Int.reduceEq, Int.reduceLE, Int.reduceLT, Int.reduceToNat, Nat.reduceAdd, Nat.reduceEqDiff, Nat.reduceLT, Nat.reduceLeDiff, Nat.reduceMul, Nat.reduceSub, reduceCtorEq, tbLU3, Tryd.results64, h2] at hfr
      have := newb hfr
      simp only [Nb] at this
      exact ⟨fun e => this.1.1 e.symm, this.1.1⟩
    refine Ok.permR (Ok.permL (iter1 k l b1 bm hb [(l, .obj (.loop r)), (b2, .c [nilS])] (fun bs => ∃ b c, 1 ≤ c ∧ (b ≠ b2 ∧ b2 ≠ b) ∧ bs = [(l, .obj (.loop r)), (b, .c (vstr k :: anys (c - 1))), (b2, .c [.lit (.slice (some ⟨b, 0, none⟩) 1 c)])]) ?_) ?_) fun v bs rs ⟨h1, ⟨Jn, ⟨b, c, hc, hbb, h2⟩, h3⟩, h4⟩ => ⟨_, ?_, h4, b, c, hc, hbb, rfl⟩
    · refine OkY.of_round (M := []) Ty.mixed hrec hpa has hbo rfl (by simp [Tryd.ntmps64]) (by kernel_rfl) (by kernel_rfl) fun F w0 I0 => ?_
      generalize hσr : roundσ _ _ _ = σr
      have h7 : σr 7 = vstr k := by rw [← hσr]; rfl
      have h22 : σr 2 = ptr b2 := by rw [← hσr]; rfl
      clear hσr
      simp only [↓rA, rB, Int.reduceEq, Int.reduceLE, Int.reduceLT, Int.reduceToNat, Nat.reduceAdd, Nat.reduceEqDiff, Nat.reduceLT, Nat.reduceLeDiff, Nat.reduceMul, Nat.reduceSub, reduceCtorEq, tbLU3, Tryd.results64, h7, h22]
      refine ⟨[], [_], rfl, ?_⟩
      simp only [↓rA, rB, Int.reduceEq, Int.reduceLE, Int.reduceLT, Int.reduceToNat, Nat.reduceAdd, Nat.reduceEqDiff, Nat.reduceLT, Nat.reduceLeDiff, Nat.reduceMul, Nat.reduceSub, reduceCtorEq, tbLU3, Tryd.results64, h7, h22, hlb]
      refine fun y => Or2.r ?_
      simp only [↓rA, rB, Int.reduceEq, Int.reduceLE, Int.reduceLT, Int.reduceToNat, Nat.reduceAdd, Nat.reduceEqDiff, Nat.reduceLT, Nat.reduceLeDiff, Nat.reduceMul, Nat.reduceSub, reduceCtorEq, tbLU3, Tryd.results64, h7, h22, hlb]
      refine fun b c hb' hc => ?_
      have hbn := newb hb'
      simp only [Nb] at hbn
      simp only [↓rA, rB, Int.reduceEq, Int.reduceLE, Int.reduceLT, Int.reduceToNat, Nat.reduceAdd, Nat.reduceEqDiff, Nat.reduceLT, Nat.reduceLeDiff, Nat.reduceMul, Nat.reduceSub, reduceCtorEq, tbLU3, Tryd.results64, h7, h22, hlb, hbn]
      refine ⟨[_], [_], [_, _], rfl, List.Sublist.refl _, rfl, ⟨b, c, hc, ⟨hbn.2.1.2, hbn.2.1.1⟩, by rw [Nat.mul_one]; rfl⟩, rfl⟩
    · exact List.perm_append_comm (l₁ := [(l, B.obj (.loop r)), (b2, B.c [nilS])]) (l₂ := [(b1, B.c [mp bm]), (bm, mS [k])])
    · rw [h3, h2]
      exact List.perm_append_comm (l₁ := [(b1, B.c [mp bm]), (bm, mS [k])]) (l₂ := [(l, B.obj (.loop r)), (b, B.c (vstr k :: anys (c - 1))), (b2, B.c [.lit (.slice (some ⟨b, 0, none⟩) 1 c)])])
  · intro l r v bs rs hrec ⟨h1, b, c, hc, hbb, h3⟩
    subst h1 h3
    refine ⟨_, rfl, fun _ => ?_⟩
    simp only [↓rA, rB, Int.reduceEq, Int.reduceLE, Int.reduceLT, Int.reduceToNat, Nat.reduceAdd, Nat.reduceEqDiff, Nat.reduceLT, Nat.reduceLeDiff, Nat.reduceMul, Nat.reduceSub, reduceCtorEq, tbLU3, Tryd.results64, h2, hbb]
    exact ⟨_, [_, _, _], [], Le.refl _, List.Sublist.cons_cons _ (List.Sublist.cons _ (List.Sublist.refl _)), List.nil_sublist _, b, c, hc, rfl, rfl, rfl⟩
set_option linter.defProp false in
def tbLU4 := (And.intro (And.intro (And.intro (And.intro Ty.sz9 Ty.by9) (And.intro Ty.ag9 Ty.zr9)) (And.intro (And.intro Ty.un9 Ty.sz82) (And.intro Ty.by82 Ty.ag82))) (And.intro (And.intro (And.intro Ty.zr82 Ty.un82) (And.intro Ty.sz98 Ty.by98)) (And.intro (And.intro Ty.ag98 Ty.zr98) (And.intro Ty.cb56 Ty.cb64))))
theorem collect0 (b1 bm : Nat) (hb : b1 ≠ bm ∧ bm ≠ b1) : Ok Tryd.prog 54 [fnK b1] [(b1, .c [mp bm]), (bm, mS [])] fun v bs rs => v = nilS ∧ bs = [(b1, .c [mp bm]), (bm, mS [])] ∧ rs = [] := by
  refine Ok.of_ex Ty.mixed Tryd.func54 rfl (by simp [Tryd.ntmps54]) (by kernel_rfl) fun F w0 I0 => ?_
  simp only [↓rA, rB, Int.reduceEq, Int.reduceLE, Int.reduceLT, Int.reduceToNat, Nat.reduceAdd, Nat.reduceEqDiff, Nat.reduceLT, Nat.reduceLeDiff, Nat.reduceMul, Nat.reduceSub, reduceCtorEq, tbLU4, Tryd.results54]
  refine OkF_with [_, _] [] (List.Perm.refl _) (appendSeq0 b1 bm hb) ?_
  rintro v bs rs ⟨rfl, rfl, rfl⟩
  simp only [↓rA, rB, Int.reduceEq, Int.reduceLE, Int.reduceLT, Int.reduceToNat, Nat.reduceAdd, Nat.reduceEqDiff, Nat.reduceLT, Nat.reduceLeDiff, Nat.reduceMul, Nat.reduceSub, reduceCtorEq, tbLU4, Tryd.results54]
  exact ⟨_, _, [], Le.refl _, List.Sublist.refl _, List.nil_sublist _, rfl, rfl, rfl⟩
set_option linter.defProp false in
def tbLU5 := (And.intro (And.intro (And.intro (And.intro Ty.sz9 Ty.by9) (And.intro Ty.ag9 Ty.zr9)) (And.intro (And.intro Ty.un9 Ty.sz82) (And.intro Ty.by82 Ty.ag82))) (And.intro (And.intro (And.intro Ty.zr82 Ty.un82) (And.intro Ty.sz98 Ty.by98)) (And.intro (And.intro Ty.ag98 Ty.zr98) (And.intro Ty.cb56 Ty.cb64))))
theorem collect1 (k : Str) (b1 bm : Nat) (hb : b1 ≠ bm ∧ bm ≠ b1) : Ok Tryd.prog 54 [fnK b1] [(b1, .c [mp bm]), (bm, mS [k])] fun v bs rs =>
    ∃ b c, 1 ≤ c ∧ v = .lit (.slice (some ⟨b, 0, none⟩) 1 c) ∧ bs = [(b, .c (vstr k :: anys (c - 1))), (b1, .c [mp bm]), (bm, mS [k])] ∧ rs = [] := by
  refine Ok.of_ex Ty.mixed Tryd.func54 rfl (by simp [Tryd.ntmps54]) (by kernel_rfl) fun F w0 I0 => ?_
  simp only [↓rA, rB, Int.reduceEq, Int.reduceLE, Int.reduceLT, Int.reduceToNat, Nat.reduceAdd, Nat.reduceEqDiff, Nat.reduceLT, Nat.reduceLeDiff, Nat.reduceMul, Nat.reduceSub, reduceCtorEq, tbLU5, Tryd.results54]
  refine OkF_with [_, _] [] (List.Perm.refl _) (appendSeq1 k b1 bm hb) ?_
  rintro v bs rs ⟨b, c, hc, rfl, rfl, rfl⟩
  simp only [↓rA, rB, Int.reduceEq, Int.reduceLE, Int.reduceLT, Int.reduceToNat, Nat.reduceAdd, Nat.reduceEqDiff, Nat.reduceLT, Nat.reduceLeDiff, Nat.reduceMul, Nat.reduceSub, reduceCtorEq, tbLU5, Tryd.results54]
  exact ⟨_, _, [], Le.refl _, List.Sublist.refl _, List.nil_sublist _, b, c, hc, rfl, rfl, rfl⟩
set_option linter.defProp false in
def tbLU6 := (And.intro (And.intro (And.intro (And.intro Ty.sz9 Ty.by9) (And.intro Ty.ag9 Ty.zr9)) (And.intro (And.intro Ty.un9 Ty.sz82) (And.intro Ty.by82 Ty.ag82))) (And.intro (And.intro (And.intro Ty.zr82 Ty.un82) (And.intro Ty.sz98 Ty.by98)) (And.intro (And.intro Ty.ag98 Ty.zr98) (And.intro Ty.cb54 (And.intro Ty.cb55 Ty.cb56)))))
theorem sorted0 (b1 bm : Nat) (hb : b1 ≠ bm ∧ bm ≠ b1) : Ok Tryd.prog 45 [fnK b1] [(b1, .c [mp bm]), (bm, mS [])] fun v bs rs => v = vstrs [] ∧ bs = [(bm, mS [])] ∧ rs = [] := by
  refine Ok.of_ex Ty.mixed Tryd.func45 rfl (by simp [Tryd.ntmps45]) (by kernel_rfl) fun F w0 I0 => ?_
  simp only [↓rA, rB, Int.reduceEq, Int.reduceLE, Int.reduceLT, Int.reduceToNat, Nat.reduceAdd, Nat.reduceEqDiff, Nat.reduceLT, Nat.reduceLeDiff, Nat.reduceMul, Nat.reduceSub, reduceCtorEq, tbLU6, Tryd.results45]
  refine OkF_with [_, _] [] (List.Perm.refl _) (collect0 b1 bm hb) ?_
  rintro v bs rs ⟨rfl, rfl, rfl⟩
  simp only [↓rA, rB, Int.reduceEq, Int.reduceLE, Int.reduceLT, Int.reduceToNat, Nat.reduceAdd, Nat.reduceEqDiff, Nat.reduceLT, Nat.reduceLeDiff, Nat.reduceMul, Nat.reduceSub, reduceCtorEq, tbLU6, Tryd.results45]
  refine OkF_of _ sort0_ok ?_
  simp only [↓rA, rB, Int.reduceEq, Int.reduceLE, Int.reduceLT, Int.reduceToNat, Nat.reduceAdd, Nat.reduceEqDiff, Nat.reduceLT, Nat.reduceLeDiff, Nat.reduceMul, Nat.reduceSub, reduceCtorEq, tbLU6, Tryd.results45]
  exact ⟨_, [_], [], Le.nil 1, List.Sublist.cons _ (List.Sublist.refl _), List.nil_sublist _, rfl, rfl, rfl⟩
set_option linter.defProp false in
def tbLU7 := (And.intro (And.intro (And.intro (And.intro Ty.sz9 Ty.by9) (And.intro Ty.ag9 Ty.zr9)) (And.intro (And.intro Ty.un9 Ty.sz82) (And.intro Ty.by82 Ty.ag82))) (And.intro (And.intro (And.intro Ty.zr82 Ty.un82) (And.intro Ty.sz98 Ty.by98)) (And.intro (And.intro Ty.ag98 Ty.zr98) (And.intro Ty.cb54 (And.intro Ty.cb55 Ty.cb56)))))
theorem sorted1 (k : Str) (b1 bm : Nat) (hb : b1 ≠ bm ∧ bm ≠ b1) : Ok Tryd.prog 45 [fnK b1] [(b1, .c [mp bm]), (bm, mS [k])] fun v bs rs => v = vstrs [k] ∧ bs = [(bm, mS [k])] ∧ rs = [] := by
  refine Ok.norows' (Q := fun v bs rs => bs = [(bm, mS [k])] ∧ rs = [] ∧ ∃ y, v = .list (some y) 1 [[vstr k]]) (Ok.freeze (Q := fun v bs rs => ∃ b c, 1 ≤ c ∧ v = .lit (.slice (some ⟨b, 0, none⟩) 1 c) ∧ bs = [(b, .c (vstr k :: anys (c - 1))), (bm, mS [k])] ∧ rs = []) ?_ fun v bs rs h => ?_) fun v bs rs h => ?_
  · refine Ok.of_ex Ty.mixed Tryd.func45 rfl (by simp [Tryd.ntmps45]) (by kernel_rfl) fun F w0 I0 => ?_
    simp only [↓rA, rB, Int.reduceEq, Int.reduceLE, Int.reduceLT, Int.reduceToNat, Nat.reduceAdd, Nat.reduceEqDiff, Nat.reduceLT, Nat.reduceLeDiff, Nat.reduceMul, Nat.reduceSub, reduceCtorEq, tbLU7, Tryd.results45]
    refine OkF_with [_, _] [] (List.Perm.refl _) (collect1 k b1 bm hb) ?_
    rintro v bs rs ⟨b, c, hc, rfl, rfl, rfl⟩
    simp only [↓rA, rB, Int.reduceEq, Int.reduceLE, Int.reduceLT, Int.reduceToNat, Nat.reduceAdd, Nat.reduceEqDiff, Nat.reduceLT, Nat.reduceLeDiff, Nat.reduceMul, Nat.reduceSub, reduceCtorEq, tbLU7, Tryd.results45]
    refine OkF_with [_] [_, _] (List.Perm.refl _) (sort1_ok k (anys (c - 1)) b c) ?_
    rintro v bs rs ⟨rfl, rfl, rfl⟩
    simp only [↓rA, rB, Int.reduceEq, Int.reduceLE, Int.reduceLT, Int.reduceToNat, Nat.reduceAdd, Nat.reduceEqDiff, Nat.reduceLT, Nat.reduceLeDiff, Nat.reduceMul, Nat.reduceSub, reduceCtorEq, tbLU7, Tryd.results45]
    exact ⟨_, [_, _], [], Le.refl _, List.Sublist.cons_cons _ (List.Sublist.cons _ (List.Sublist.refl _)), List.nil_sublist _, b, c, hc, rfl, rfl, rfl⟩
  · obtain ⟨b, c, hc, rfl, rfl, rfl⟩ := h
    exact .inr ⟨b, 1, c, 1, _, [[vstr k]], _, _, List.Perm.refl _, ⟨rfl, fun e he => by obtain rfl := List.mem_singleton.1 he; rfl, rfl, hc⟩, .here, rfl, rfl, _, rfl⟩
  · obtain ⟨rfl, rfl, y, rfl⟩ := h
    exact ⟨_, _, [], Le.list _ _ _, List.Sublist.refl _, List.nil_sublist _, rfl, rfl, rfl⟩
set_option linter.defProp false in
def tbLU8 := (And.intro (And.intro (And.intro (And.intro Ty.sz4 (And.intro Ty.by4 Ty.ag4)) (And.intro Ty.zr4 (And.intro Ty.un4 Ty.sz9))) (And.intro (And.intro Ty.by9 (And.intro Ty.ag9 Ty.zr9)) (And.intro Ty.un9 (And.intro Ty.sz94 Ty.by94)))) (And.intro (And.intro (And.intro Ty.ag94 (And.intro Ty.zr94 Ty.un94)) (And.intro Ty.sz97 (And.intro Ty.by97 Ty.ag97))) (And.intro (And.intro Ty.zr97 (And.intro Ty.sz98 Ty.by98)) (And.intro (And.intro Ty.ag98 Ty.zr98) (And.intro Ty.mp94 Ty.cb56)))))
theorem keys_ok (bm : Nat) (z : B) : Ok Tryd.prog 46 [mp bm] [(bm, z)] fun v bs rs => ∃ b1, (b1 ≠ bm ∧ bm ≠ b1) ∧ v = fnK b1 ∧ bs = [(b1, .c [mp bm]), (bm, z)] ∧ rs = [] := by
  refine Ok.of_ex Ty.mixed Tryd.func46 rfl (by simp [Tryd.ntmps46]) (by kernel_rfl) fun F w0 I0 => ?_
  simp only [↓rA, rB, Int.reduceEq, Int.reduceLE, Int.reduceLT, Int.reduceToNat, Nat.reduceAdd, Nat.reduceEqDiff, Nat.reduceLT, Nat.reduceLeDiff, Nat.reduceMul, Nat.reduceSub, reduceCtorEq, tbLU8, Tryd.results46]
  refine fun b1 h1 => ?_; replace h1 := newb h1; try simp only [Nb] at h1
  simp only [↓rA, rB, Int.reduceEq, Int.reduceLE, Int.reduceLT, Int.reduceToNat, Nat.reduceAdd, Nat.reduceEqDiff, Nat.reduceLT, Nat.reduceLeDiff, Nat.reduceMul, Nat.reduceSub, reduceCtorEq, tbLU8, Tryd.results46, h1]
  exact ⟨_, _, [], Le.refl _, List.Sublist.refl _, List.nil_sublist _, b1, ⟨h1.1.2, h1.1.1⟩, rfl, rfl, rfl⟩
end Go.Proofs.YtphkmlogjgeipaaDoor

/- Contracts of lowering, part o: catalog.Uses at small sets; lower.Class. -/
set_option linter.unusedSimpArgs false
set_option maxRecDepth 100000
-- @call 29 31
namespace Go.Lo
open Go.VL Go.Ar
abbrev sMM : List Str := [⟨#[109, 105, 110]⟩, ⟨#[109, 97, 120]⟩, ⟨#[102, 105, 114, 115, 116]⟩, ⟨#[108, 97, 115, 116]⟩]
end Go.Lo
namespace Go.Proofs.YtphkmlogjgeipaaDoor
open Go.VL Go.Ar Go.Lo Go.Proofs.YtphkmlogjgeipaaDoor

def up (n m : Int) : Int := if m > n then m else n
def clsM (h : Hd) (n : Int) : Int := if h.wk = 4 then up n 3 else if memS sMM h.op = true then up n 2 else up n 1
mutual
def eachM : E → Int → Int
  | .mk h l, n => if h.kind = 5 then clsM h n else eachMs l n
def eachMs : List E → Int → Int
  | [], n => n
  | x :: r, n => eachMs r (eachM x n)
end
theorem eachM_mk (h : Hd) (l : List E) (n : Int) : eachM (.mk h l) n = if h.kind = 5 then clsM h n else eachMs l n := by rw [eachM]
theorem eachMs_append : ∀ (l m : List E) (n : Int), eachMs (l ++ m) n = eachMs m (eachMs l n)
  | [], m, n => rfl
  | x :: r, m, n => by simp only [List.cons_append, eachMs, eachMs_append r m]
set_option linter.defProp false in
def tbLW0 := (And.intro (And.intro (And.intro (And.intro (And.intro (And.intro Ty.sz3 Ty.by3) (And.intro Ty.ag3 (And.intro Ty.zr3 Ty.un3))) (And.intro (And.intro Ty.sz4 Ty.by4) (And.intro Ty.ag4 (And.intro Ty.zr4 Ty.un4)))) (And.intro (And.intro (And.intro Ty.sz9 Ty.by9) (And.intro Ty.ag9 (And.intro Ty.zr9 Ty.un9))) (And.intro (And.intro Ty.sz23 (And.intro Ty.by23 Ty.ag23)) (And.intro Ty.zr23 (And.intro Ty.fl23_0 Ty.pl23_0))))) (And.intro (And.intro (And.intro (And.intro Ty.fl23_1 Ty.pl23_1) (And.intro Ty.fl23_2 (And.intro Ty.pl23_2 Ty.sz24))) (And.intro (And.intro Ty.by24 Ty.ag24) (And.intro Ty.zr24 (And.intro Ty.un24 Ty.sz26)))) (And.intro (And.intro (And.intro Ty.by26 Ty.ag26) (And.intro Ty.zr26 (And.intro Ty.fl26_0 Ty.pl26_0))) (And.intro (And.intro Ty.fl26_1 (And.intro Ty.pl26_1 Ty.sz27)) (And.intro Ty.by27 (And.intro Ty.ag27 Ty.zr27)))))) (And.intro (And.intro (And.intro (And.intro (And.intro Ty.un27 Ty.sz29) (And.intro Ty.by29 (And.intro Ty.ag29 Ty.zr29))) (And.intro (And.intro Ty.fl29_0 Ty.pl29_0) (And.intro Ty.fl29_1 (And.intro Ty.pl29_1 Ty.fl29_2)))) (And.intro (And.intro (And.intro Ty.pl29_2 Ty.fl29_3) (And.intro Ty.pl29_3 (And.intro Ty.fl29_4 Ty.pl29_4))) (And.intro (And.intro Ty.fl29_5 (And.intro Ty.pl29_5 Ty.fl29_6)) (And.intro Ty.pl29_6 (And.intro Ty.fl29_7 Ty.pl29_7))))) (And.intro (And.intro (And.intro (And.intro Ty.fl29_8 Ty.pl29_8) (And.intro Ty.sz82 (And.intro Ty.by82 Ty.ag82))) (And.intro (And.intro Ty.zr82 Ty.un82) (And.intro Ty.sz105 (And.intro Ty.by105 Ty.ag105)))) (And.intro (And.intro (And.intro Ty.zr105 Ty.fl105_0) (And.intro Ty.pl105_0 (And.intro Ty.fl105_1 Ty.pl105_1))) (And.intro (And.intro Ty.eq23 (And.intro Ty.eq26 Ty.eq105)) (And.intro Ty.cb29 (And.intro Ty.cb31 Ty.cb32)))))))
theorem do_ok (h : Hd) (l : List E) (bn : Nat) (n : Int) : Ok Tryd.prog 31 [.agg (cH h (vEs l)), ptr bn] [(bn, .c [vint n])] fun v bs rs => v = .tup [] ∧ bs = [(bn, .c [vint (clsM h n)])] ∧ rs = [] := by
  refine Ok.of_ex Ty.mixed Tryd.func31 rfl (by simp [Tryd.ntmps31]) (by kernel_rfl) fun F w0 I0 => ?_
  simp only [↓rA, rB, Int.reduceEq, Int.reduceLE, Int.reduceLT, Int.reduceToNat, Nat.reduceAdd, Nat.reduceEqDiff, Nat.reduceLT, Nat.reduceLeDiff, Nat.reduceMul, Nat.reduceSub, reduceCtorEq, tbLW0, Tryd.results31]
  refine fun b2 h2 => ?_; replace h2 := newb h2; try simp only [Nb] at h2
  by_cases e : h.wk = 4
  · have hc : clsM h n = up n 3 := by rw [clsM, if_pos e]
    rw [hc]
    simp only [↓rA, rB, Int.reduceEq, Int.reduceLE, Int.reduceLT, Int.reduceToNat, Nat.reduceAdd, Nat.reduceEqDiff, Nat.reduceLT, Nat.reduceLeDiff, Nat.reduceMul, Nat.reduceSub, reduceCtorEq, tbLW0, Tryd.results31, h2, e]
    exact ⟨_, [_], [], Le.refl _, List.Sublist.cons _ (List.Sublist.refl _), List.nil_sublist _, rfl, rfl, rfl⟩
  · simp only [↓rA, rB, Int.reduceEq, Int.reduceLE, Int.reduceLT, Int.reduceToNat, Nat.reduceAdd, Nat.reduceEqDiff, Nat.reduceLT, Nat.reduceLeDiff, Nat.reduceMul, Nat.reduceSub, reduceCtorEq, tbLW0, Tryd.results31, h2, e]
    refine fun y => ?_
    refine OkF_le (.cons (Le.list _ _ _) (.cons (Le.refl _) .nil)) _ (containsS_ok sMM h.op (by decide)) ?_
    cases e2 : memS sMM h.op
    · have hc : clsM h n = up n 1 := by rw [clsM, if_neg e, if_neg (by rw [e2]; decide)]
      rw [hc]
      simp only [↓rA, rB, Int.reduceEq, Int.reduceLE, Int.reduceLT, Int.reduceToNat, Nat.reduceAdd, Nat.reduceEqDiff, Nat.reduceLT, Nat.reduceLeDiff, Nat.reduceMul, Nat.reduceSub, reduceCtorEq, tbLW0, Tryd.results31, h2, e]
      exact ⟨_, [_], [], Le.refl _, List.Sublist.cons _ (List.Sublist.refl _), List.nil_sublist _, rfl, rfl, rfl⟩
    · have hc : clsM h n = up n 2 := by rw [clsM, if_neg e, if_pos e2]
      rw [hc]
      simp only [↓rA, rB, Int.reduceEq, Int.reduceLE, Int.reduceLT, Int.reduceToNat, Nat.reduceAdd, Nat.reduceEqDiff, Nat.reduceLT, Nat.reduceLeDiff, Nat.reduceMul, Nat.reduceSub, reduceCtorEq, tbLW0, Tryd.results31, h2, e]
      exact ⟨_, [_], [], Le.refl _, List.Sublist.cons _ (List.Sublist.refl _), List.nil_sublist _, rfl, rfl, rfl⟩
abbrev fnD (bn : Nat) : V := .lit (.func (.func 31) #[] #[.pointer (some ⟨bn, 0, none⟩)])
abbrev fnO (bn : Nat) : V := .lit (.func (.func 29) #[] #[.pointer (some ⟨bn, 0, none⟩)])
set_option linter.defProp false in
def tbLW1 := (And.intro (And.intro (And.intro (And.intro (And.intro (And.intro Ty.sz3 Ty.by3) (And.intro Ty.ag3 (And.intro Ty.zr3 Ty.un3))) (And.intro (And.intro Ty.sz4 Ty.by4) (And.intro Ty.ag4 (And.intro Ty.zr4 Ty.un4)))) (And.intro (And.intro (And.intro Ty.sz9 Ty.by9) (And.intro Ty.ag9 (And.intro Ty.zr9 Ty.un9))) (And.intro (And.intro Ty.sz23 Ty.by23) (And.intro Ty.ag23 (And.intro Ty.zr23 Ty.fl23_0))))) (And.intro (And.intro (And.intro (And.intro Ty.pl23_0 Ty.fl23_1) (And.intro Ty.pl23_1 (And.intro Ty.fl23_2 Ty.pl23_2))) (And.intro (And.intro Ty.sz24 Ty.by24) (And.intro Ty.ag24 (And.intro Ty.zr24 Ty.un24)))) (And.intro (And.intro (And.intro Ty.sz26 Ty.by26) (And.intro Ty.ag26 (And.intro Ty.zr26 Ty.fl26_0))) (And.intro (And.intro Ty.pl26_0 (And.intro Ty.fl26_1 Ty.pl26_1)) (And.intro Ty.sz27 (And.intro Ty.by27 Ty.ag27)))))) (And.intro (And.intro (And.intro (And.intro (And.intro Ty.zr27 Ty.un27) (And.intro Ty.sz29 (And.intro Ty.by29 Ty.ag29))) (And.intro (And.intro Ty.zr29 Ty.fl29_0) (And.intro Ty.pl29_0 (And.intro Ty.fl29_1 Ty.pl29_1)))) (And.intro (And.intro (And.intro Ty.fl29_2 Ty.pl29_2) (And.intro Ty.fl29_3 (And.intro Ty.pl29_3 Ty.fl29_4))) (And.intro (And.intro Ty.pl29_4 (And.intro Ty.fl29_5 Ty.pl29_5)) (And.intro Ty.fl29_6 (And.intro Ty.pl29_6 Ty.fl29_7))))) (And.intro (And.intro (And.intro (And.intro Ty.pl29_7 Ty.fl29_8) (And.intro Ty.pl29_8 (And.intro Ty.sz83 Ty.by83))) (And.intro (And.intro Ty.ag83 Ty.zr83) (And.intro Ty.sz105 (And.intro Ty.by105 Ty.ag105)))) (And.intro (And.intro (And.intro Ty.zr105 Ty.fl105_0) (And.intro Ty.pl105_0 (And.intro Ty.fl105_1 Ty.pl105_1))) (And.intro (And.intro Ty.eq23 (And.intro Ty.eq26 Ty.eq105)) (And.intro Ty.cb29 (And.intro Ty.cb30 Ty.cb31)))))))
theorem each_ok : ∀ (x : E), Fit x → ∀ (bn : Nat) (n : Int), Ok Tryd.prog 30 [vE x, fnD bn] [(bn, .c [vint n])] fun v bs rs => v = .tup [] ∧ bs = [(bn, .c [vint (eachM x n)])] ∧ rs = [] := by
  intro x
  induction x using E.ind with
  | h hd l ih =>
  intro hf bn n
  have hl := hf.len
  have ha := hf.args
  simp only [E.args, big] at hl ha
  rw [vE, cE_mk, eachM_mk]
  refine Ok.of_ex Ty.mixed Tryd.func30 rfl (by simp [Tryd.ntmps30]) (by kernel_rfl) fun F w0 I0 => ?_
  simp only [↓rA, rB, Int.reduceEq, Int.reduceLE, Int.reduceLT, Int.reduceToNat, Nat.reduceAdd, Nat.reduceEqDiff, Nat.reduceLT, Nat.reduceLeDiff, Nat.reduceMul, Nat.reduceSub, reduceCtorEq, tbLW1, Tryd.results30]
  refine fun b2 h2 => ?_; replace h2 := newb h2; try simp only [Nb] at h2
  by_cases e : hd.kind = 5
  · rw [if_pos e]
    have hq := do_ok hd l bn n
    simp only [cH, e] at hq
    simp only [↓rA, rB, Int.reduceEq, Int.reduceLE, Int.reduceLT, Int.reduceToNat, Nat.reduceAdd, Nat.reduceEqDiff, Nat.reduceLT, Nat.reduceLeDiff, Nat.reduceMul, Nat.reduceSub, reduceCtorEq, tbLW1, Tryd.results30, h2, e]
    refine OkF_with _ [] (List.Perm.of_eq (List.append_nil _).symm) (Ok.frame [_] hq) ?_
    rintro v bs rs ⟨bs1, rfl, _, rfl, rfl, rfl⟩
    simp only [↓rA, rB, Int.reduceEq, Int.reduceLE, Int.reduceLT, Int.reduceToNat, Nat.reduceAdd, Nat.reduceEqDiff, Nat.reduceLT, Nat.reduceLeDiff, Nat.reduceMul, Nat.reduceSub, reduceCtorEq, tbLW1, Tryd.results30, h2]
    exact ⟨_, [_], [], Le.refl _, List.Sublist.cons _ (List.Sublist.refl _), List.nil_sublist _, rfl, rfl, rfl⟩
  · rw [if_neg e]
    simp only [↓rA, rB, Int.reduceEq, Int.reduceLE, Int.reduceLT, Int.reduceToNat, Nat.reduceAdd, Nat.reduceEqDiff, Nat.reduceLT, Nat.reduceLeDiff, Nat.reduceMul, Nat.reduceSub, reduceCtorEq, tbLW1, Tryd.results30, h2, e]
    refine EX_for Ty.mixed (by kernel_rfl) l.length (fun i S => S.boxes = [(b2, .c (cH hd (vEs l))), (bn, .c [vint (eachMs (l.take i) n)])] ∧ S.rows = [] ∧ S.σ 1 = fnD bn ∧ S.σ 13 = vEs l ∧ S.σ 14 = vint l.length ∧ S.σ 15 = vint i) ⟨0, ?_⟩ (fun i S hi ⟨gb, gr, g1, g13, g14, g15⟩ => ?_) (fun S ⟨gb, gr, g1, g13, g14, g15⟩ => ?_)
    · simp only [↓rA, rB, Int.reduceEq, Int.reduceLE, Int.reduceLT, Int.reduceToNat, Nat.reduceAdd, Nat.reduceEqDiff, Nat.reduceLT, Nat.reduceLeDiff, Nat.reduceMul, Nat.reduceSub, reduceCtorEq, tbLW1, Tryd.results30, List.length_map, eachMs]
    · have hwi := wrap_succ (i := i) (N := l.length) hi (by omega)
      have hx := List.getElem_mem hi
      simp only [↓rA, rB, Int.reduceEq, Int.reduceLE, Int.reduceLT, Int.reduceToNat, Nat.reduceAdd, Nat.reduceEqDiff, Nat.reduceLT, Nat.reduceLeDiff, Nat.reduceMul, Nat.reduceSub, reduceCtorEq, tbLW1, Tryd.results30, gb, gr, g1, g13, g14, g15, h2, Int.ofNat_lt, hi, List.length_map, getD_map _ _ _ hi, cE_eq]
      refine fun b5 h5 => ?_; replace h5 := newb h5; try simp only [Nb] at h5
      simp only [↓rA, rB, Int.reduceEq, Int.reduceLE, Int.reduceLT, Int.reduceToNat, Nat.reduceAdd, Nat.reduceEqDiff, Nat.reduceLT, Nat.reduceLeDiff, Nat.reduceMul, Nat.reduceSub, reduceCtorEq, tbLW1, Tryd.results30, gb, gr, g1, g13, g14, g15, h2, h5, Int.ofNat_lt, hi, List.length_map, getD_map _ _ _ hi]
      have hc := ih l[i] hx (ha _ hx) bn (eachMs (l.take i) n)
      rw [vE, cE_eq] at hc
      refine OkF_with _ [] (List.Perm.of_eq (List.append_nil _).symm) (Ok.frame [_, _] hc) ?_
      rintro v bs rs ⟨bs1, rfl, _, rfl, rfl, rfl⟩
      simp only [↓rA, rB, Int.reduceEq, Int.reduceLE, Int.reduceLT, Int.reduceToNat, Nat.reduceAdd, Nat.reduceEqDiff, Nat.reduceLT, Nat.reduceLeDiff, Nat.reduceMul, Nat.reduceSub, reduceCtorEq, tbLW1, Tryd.results30, gr, g1, g13, g14, g15, hwi]
      refine ⟨1, ?_⟩
      rw [List.take_succ_eq_append_getElem hi, eachMs_append]
      rfl
    · rw [List.take_of_length_le (Nat.le_refl _)] at gb
      simp only [↓rA, rB, Int.reduceEq, Int.reduceLE, Int.reduceLT, Int.reduceToNat, Nat.reduceAdd, Nat.reduceEqDiff, Nat.reduceLT, Nat.reduceLeDiff, Nat.reduceMul, Nat.reduceSub, reduceCtorEq, tbLW1, Tryd.results30, gb, gr, g1, g13, g14, g15, h2, Int.ofNat_lt, Nat.lt_irrefl]
      exact ⟨_, [_], [], Le.refl _, List.Sublist.cons _ (List.Sublist.refl _), List.nil_sublist _, rfl, rfl, rfl⟩
set_option linter.defProp false in
def tbLW2 := (And.intro (And.intro (And.intro (And.intro (And.intro (And.intro Ty.sz3 Ty.by3) (And.intro Ty.ag3 Ty.zr3)) (And.intro (And.intro Ty.un3 Ty.sz9) (And.intro Ty.by9 (And.intro Ty.ag9 Ty.zr9)))) (And.intro (And.intro (And.intro Ty.un9 Ty.sz23) (And.intro Ty.by23 (And.intro Ty.ag23 Ty.zr23))) (And.intro (And.intro Ty.fl23_0 Ty.pl23_0) (And.intro Ty.fl23_1 (And.intro Ty.pl23_1 Ty.fl23_2))))) (And.intro (And.intro (And.intro (And.intro Ty.pl23_2 Ty.sz24) (And.intro Ty.by24 (And.intro Ty.ag24 Ty.zr24))) (And.intro (And.intro Ty.un24 Ty.sz26) (And.intro Ty.by26 (And.intro Ty.ag26 Ty.zr26)))) (And.intro (And.intro (And.intro Ty.fl26_0 Ty.pl26_0) (And.intro Ty.fl26_1 (And.intro Ty.pl26_1 Ty.sz27))) (And.intro (And.intro Ty.by27 Ty.ag27) (And.intro Ty.zr27 (And.intro Ty.un27 Ty.sz29)))))) (And.intro (And.intro (And.intro (And.intro (And.intro Ty.by29 Ty.ag29) (And.intro Ty.zr29 Ty.fl29_0)) (And.intro (And.intro Ty.pl29_0 Ty.fl29_1) (And.intro Ty.pl29_1 (And.intro Ty.fl29_2 Ty.pl29_2)))) (And.intro (And.intro (And.intro Ty.fl29_3 Ty.pl29_3) (And.intro Ty.fl29_4 (And.intro Ty.pl29_4 Ty.fl29_5))) (And.intro (And.intro Ty.pl29_5 Ty.fl29_6) (And.intro Ty.pl29_6 (And.intro Ty.fl29_7 Ty.pl29_7))))) (And.intro (And.intro (And.intro (And.intro Ty.fl29_8 Ty.pl29_8) (And.intro Ty.sz83 (And.intro Ty.by83 Ty.ag83))) (And.intro (And.intro Ty.zr83 Ty.sz105) (And.intro Ty.by105 (And.intro Ty.ag105 Ty.zr105)))) (And.intro (And.intro (And.intro Ty.fl105_0 Ty.pl105_0) (And.intro Ty.fl105_1 (And.intro Ty.pl105_1 Ty.eq23))) (And.intro (And.intro Ty.eq26 Ty.eq105) (And.intro Ty.cb29 (And.intro Ty.cb30 Ty.cb31)))))))
theorem own_ok (x : E) (hf : Fit x) (bn : Nat) (n : Int) : Ok Tryd.prog 29 [vE x, ptr bn] [(bn, .c [vint n])] fun v bs rs => v = .tup [] ∧ bs = [(bn, .c [vint (eachM x n)])] ∧ rs = [] := by
  have hc := each_ok x hf bn n
  rw [vE, cE_eq] at hc ⊢
  refine Ok.of_ex Ty.mixed Tryd.func29 rfl (by simp [Tryd.ntmps29]) (by kernel_rfl) fun F w0 I0 => ?_
  simp only [↓rA, rB, Int.reduceEq, Int.reduceLE, Int.reduceLT, Int.reduceToNat, Nat.reduceAdd, Nat.reduceEqDiff, Nat.reduceLT, Nat.reduceLeDiff, Nat.reduceMul, Nat.reduceSub, reduceCtorEq, tbLW2, Tryd.results29]
  refine fun b2 h2 => ?_; replace h2 := newb h2; try simp only [Nb] at h2
  simp only [↓rA, rB, Int.reduceEq, Int.reduceLE, Int.reduceLT, Int.reduceToNat, Nat.reduceAdd, Nat.reduceEqDiff, Nat.reduceLT, Nat.reduceLeDiff, Nat.reduceMul, Nat.reduceSub, reduceCtorEq, tbLW2, Tryd.results29, h2]
  refine OkF_with _ [] (List.Perm.of_eq (List.append_nil _).symm) (Ok.frame [_] hc) ?_
  rintro v bs rs ⟨bs1, rfl, _, rfl, rfl, rfl⟩
  simp only [↓rA, rB, Int.reduceEq, Int.reduceLE, Int.reduceLT, Int.reduceToNat, Nat.reduceAdd, Nat.reduceEqDiff, Nat.reduceLT, Nat.reduceLeDiff, Nat.reduceMul, Nat.reduceSub, reduceCtorEq, tbLW2, Tryd.results29, h2]
  exact ⟨_, [_], [], Le.refl _, List.Sublist.cons _ (List.Sublist.refl _), List.nil_sublist _, rfl, rfl, rfl⟩

/-! ### Uses, where the sets are small -/
theorem sortedK (K : List Str) (hK : K.length ≤ 1) (b1 bm : Nat) (hb : b1 ≠ bm ∧ bm ≠ b1) : Ok Tryd.prog 45 [fnK b1] [(b1, .c [mp bm]), (bm, mS K)] fun v bs rs => v = vstrs K ∧ bs = [(bm, mS K)] ∧ rs = [] := by
  match K, hK with
  | [], _ => exact sorted0 b1 bm hb
  | [k], _ => exact sorted1 k b1 bm hb
set_option linter.defProp false in
def tbLW3 := (And.intro (And.intro (And.intro (And.intro (And.intro (And.intro (And.intro Ty.sz3 Ty.by3) (And.intro Ty.ag3 (And.intro Ty.zr3 Ty.un3))) (And.intro (And.intro Ty.sz4 Ty.by4) (And.intro Ty.ag4 (And.intro Ty.zr4 Ty.un4)))) (And.intro (And.intro (And.intro Ty.sz9 Ty.by9) (And.intro Ty.ag9 (And.intro Ty.zr9 Ty.un9))) (And.intro (And.intro Ty.sz23 (And.intro Ty.by23 Ty.ag23)) (And.intro Ty.zr23 (And.intro Ty.fl23_0 Ty.pl23_0))))) (And.intro (And.intro (And.intro (And.intro Ty.fl23_1 Ty.pl23_1) (And.intro Ty.fl23_2 (And.intro Ty.pl23_2 Ty.sz24))) (And.intro (And.intro Ty.by24 Ty.ag24) (And.intro Ty.zr24 (And.intro Ty.un24 Ty.sz26)))) (And.intro (And.intro (And.intro Ty.by26 Ty.ag26) (And.intro Ty.zr26 (And.intro Ty.fl26_0 Ty.pl26_0))) (And.intro (And.intro Ty.fl26_1 (And.intro Ty.pl26_1 Ty.sz27)) (And.intro Ty.by27 (And.intro Ty.ag27 Ty.zr27)))))) (And.intro (And.intro (And.intro (And.intro (And.intro Ty.un27 Ty.sz29) (And.intro Ty.by29 (And.intro Ty.ag29 Ty.zr29))) (And.intro (And.intro Ty.fl29_0 Ty.pl29_0) (And.intro Ty.fl29_1 (And.intro Ty.pl29_1 Ty.fl29_2)))) (And.intro (And.intro (And.intro Ty.pl29_2 Ty.fl29_3) (And.intro Ty.pl29_3 (And.intro Ty.fl29_4 Ty.pl29_4))) (And.intro (And.intro Ty.fl29_5 (And.intro Ty.pl29_5 Ty.fl29_6)) (And.intro Ty.pl29_6 (And.intro Ty.fl29_7 Ty.pl29_7))))) (And.intro (And.intro (And.intro (And.intro Ty.fl29_8 Ty.pl29_8) (And.intro Ty.sz56 (And.intro Ty.by56 Ty.ag56))) (And.intro (And.intro Ty.zr56 (And.intro Ty.fl56_0 Ty.pl56_0)) (And.intro Ty.fl56_1 (And.intro Ty.pl56_1 Ty.fl56_2)))) (And.intro (And.intro (And.intro Ty.pl56_2 Ty.sz58) (And.intro Ty.by58 (And.intro Ty.ag58 Ty.zr58))) (And.intro (And.intro Ty.fl58_0 (And.intro Ty.pl58_0 Ty.fl58_1)) (And.intro Ty.pl58_1 (And.intro Ty.fl58_2 Ty.pl58_2))))))) (And.intro (And.intro (And.intro (And.intro (And.intro (And.intro Ty.fl58_3 Ty.pl58_3) (And.intro Ty.fl58_4 (And.intro Ty.pl58_4 Ty.sz60))) (And.intro (And.intro Ty.by60 Ty.ag60) (And.intro Ty.zr60 (And.intro Ty.fl60_0 Ty.pl60_0)))) (And.intro (And.intro (And.intro Ty.fl60_1 Ty.pl60_1) (And.intro Ty.sz61 (And.intro Ty.by61 Ty.ag61))) (And.intro (And.intro Ty.zr61 (And.intro Ty.un61 Ty.sz63)) (And.intro Ty.by63 (And.intro Ty.ag63 Ty.zr63))))) (And.intro (And.intro (And.intro (And.intro Ty.fl63_0 Ty.pl63_0) (And.intro Ty.fl63_1 (And.intro Ty.pl63_1 Ty.fl63_2))) (And.intro (And.intro Ty.pl63_2 (And.intro Ty.fl63_3 Ty.pl63_3)) (And.intro Ty.sz64 (And.intro Ty.by64 Ty.ag64)))) (And.intro (And.intro (And.intro Ty.zr64 Ty.un64) (And.intro Ty.sz65 (And.intro Ty.by65 Ty.ag65))) (And.intro (And.intro Ty.zr65 (And.intro Ty.un65 Ty.sz67)) (And.intro Ty.by67 (And.intro Ty.ag67 Ty.zr67)))))) (And.intro (And.intro (And.intro (And.intro (And.intro Ty.fl67_0 Ty.pl67_0) (And.intro Ty.fl67_1 (And.intro Ty.pl67_1 Ty.fl67_2))) (And.intro (And.intro Ty.pl67_2 Ty.fl67_3) (And.intro Ty.pl67_3 (And.intro Ty.sz82 Ty.by82)))) (And.intro (And.intro (And.intro Ty.ag82 Ty.zr82) (And.intro Ty.un82 (And.intro Ty.sz86 Ty.by86))) (And.intro (And.intro Ty.ag86 (And.intro Ty.sz94 Ty.by94)) (And.intro Ty.ag94 (And.intro Ty.zr94 Ty.un94))))) (And.intro (And.intro (And.intro (And.intro Ty.sz98 Ty.by98) (And.intro Ty.ag98 (And.intro Ty.zr98 Ty.sz105))) (And.intro (And.intro Ty.by105 (And.intro Ty.ag105 Ty.zr105)) (And.intro Ty.fl105_0 (And.intro Ty.pl105_0 Ty.fl105_1)))) (And.intro (And.intro (And.intro Ty.pl105_1 Ty.eq23) (And.intro Ty.eq26 (And.intro Ty.eq105 Ty.mp94))) (And.intro (And.intro Ty.cb29 (And.intro Ty.cb31 Ty.cb34)) (And.intro Ty.cb44 (And.intro Ty.cb45 Ty.cb46))))))))
theorem uses_none (c : Cat) (x : E) (hf : Fit x) (O : List Str) (hd : dirE x ([], []) = ([], O)) (hO : O.length ≤ 1) : OkP Tryd.prog 33 [vCat c, vE x] (.tup [vstrs [], vstrs O]) := by
  have hx := fun b1 b2 hb => direct_ok x hf ([], []) b1 b2 hb
  rw [hd] at hx
  simp only [vE, cE_eq x] at hx ⊢
  refine Ok.of_ex Ty.mixed Tryd.func33 rfl (by simp [Tryd.ntmps33]) (by kernel_rfl) fun F w0 I0 => ?_
  simp only [↓rA, rB, Int.reduceEq, Int.reduceLE, Int.reduceLT, Int.reduceToNat, Nat.reduceAdd, Nat.reduceEqDiff, Nat.reduceLT, Nat.reduceLeDiff, Nat.reduceMul, Nat.reduceSub, reduceCtorEq, tbLW3, Tryd.results33]
  refine fun b2 h2 => ?_; replace h2 := newb h2; try simp only [Nb] at h2
  simp only [↓rA, rB, Int.reduceEq, Int.reduceLE, Int.reduceLT, Int.reduceToNat, Nat.reduceAdd, Nat.reduceEqDiff, Nat.reduceLT, Nat.reduceLeDiff, Nat.reduceMul, Nat.reduceSub, reduceCtorEq, tbLW3, Tryd.results33, h2]
  refine fun b3 h3 => ?_; replace h3 := newb h3; try simp only [Nb] at h3
  simp only [↓rA, rB, Int.reduceEq, Int.reduceLE, Int.reduceLT, Int.reduceToNat, Nat.reduceAdd, Nat.reduceEqDiff, Nat.reduceLT, Nat.reduceLeDiff, Nat.reduceMul, Nat.reduceSub, reduceCtorEq, tbLW3, Tryd.results33, h2, h3]
  refine fun b6 h6 => ?_; replace h6 := newb h6; try simp only [Nb] at h6
  simp only [↓rA, rB, Int.reduceEq, Int.reduceLE, Int.reduceLT, Int.reduceToNat, Nat.reduceAdd, Nat.reduceEqDiff, Nat.reduceLT, Nat.reduceLeDiff, Nat.reduceMul, Nat.reduceSub, reduceCtorEq, tbLW3, Tryd.results33, h2, h3, h6]
  refine fun b7 h7 => ?_; replace h7 := newb h7; try simp only [Nb] at h7
  simp only [↓rA, rB, Int.reduceEq, Int.reduceLE, Int.reduceLT, Int.reduceToNat, Nat.reduceAdd, Nat.reduceEqDiff, Nat.reduceLT, Nat.reduceLeDiff, Nat.reduceMul, Nat.reduceSub, reduceCtorEq, tbLW3, Tryd.results33, h2, h3, h6, h7]
  refine OkF_with [_, _] [_, _] (List.Perm.swap _ _ _) (hx b6 b7 ⟨h7.1.1, h7.1.2⟩) ?_
  rintro v bs rs ⟨rfl, rfl, rfl⟩
  simp only [↓rA, rB, Int.reduceEq, Int.reduceLE, Int.reduceLT, Int.reduceToNat, Nat.reduceAdd, Nat.reduceEqDiff, Nat.reduceLT, Nat.reduceLeDiff, Nat.reduceMul, Nat.reduceSub, reduceCtorEq, tbLW3, Tryd.results33, h2, h3, h6, h7]
  refine OkF_with [_] [_, _, _] (List.Perm.refl _) (keys_ok b6 _) ?_
  rintro v bs rs ⟨b1, hb1, rfl, rfl, rfl⟩
  simp only [↓rA, rB, Int.reduceEq, Int.reduceLE, Int.reduceLT, Int.reduceToNat, Nat.reduceAdd, Nat.reduceEqDiff, Nat.reduceLT, Nat.reduceLeDiff, Nat.reduceMul, Nat.reduceSub, reduceCtorEq, tbLW3, Tryd.results33, h2, h3, h6, h7]
  refine OkF_with [_, _] [_, _, _] (List.Perm.refl _) (sortedK [] (by simp) b1 b6 hb1) ?_
  rintro v bs rs ⟨rfl, rfl, rfl⟩
  simp only [↓rA, rB, Int.reduceEq, Int.reduceLE, Int.reduceLT, Int.reduceToNat, Nat.reduceAdd, Nat.reduceEqDiff, Nat.reduceLT, Nat.reduceLeDiff, Nat.reduceMul, Nat.reduceSub, reduceCtorEq, tbLW3, Tryd.results33, h2, h3, h6, h7]
  refine EX_while Ty.mixed (by kernel_rfl) (fun _ : Nat => 0) (fun _ S => S.boxes = [(b6, mS []), (b7, mS O), (b3, .c (cH x.hd (vEs x.args))), (b2, .c (cCat c))] ∧ S.rows = [] ∧ S.σ 6 = mp b6 ∧ S.σ 7 = mp b7 ∧ S.σ 8 = vstrs []) 0 ⟨0, ?_⟩ (fun _ S ⟨gb, gr, g6, g7, g8⟩ => ?_)
  · simp only [↓rA, rB, Int.reduceEq, Int.reduceLE, Int.reduceLT, Int.reduceToNat, Nat.reduceAdd, Nat.reduceEqDiff, Nat.reduceLT, Nat.reduceLeDiff, Nat.reduceMul, Nat.reduceSub, reduceCtorEq, tbLW3, Tryd.results33, h2, h3, h6, h7]
  · simp only [↓rA, rB, Int.reduceEq, Int.reduceLE, Int.reduceLT, Int.reduceToNat, Nat.reduceAdd, Nat.reduceEqDiff, Nat.reduceLT, Nat.reduceLeDiff, Nat.reduceMul, Nat.reduceSub, reduceCtorEq, tbLW3, Tryd.results33, gb, gr, g6, g7, g8, h2, h3, h6, h7]
    refine OkF_with [_] [_, _, _] (List.Perm.refl _) (keys_ok b6 _) ?_
    rintro v bs rs ⟨b1', hb1', rfl, rfl, rfl⟩
    simp only [↓rA, rB, Int.reduceEq, Int.reduceLE, Int.reduceLT, Int.reduceToNat, Nat.reduceAdd, Nat.reduceEqDiff, Nat.reduceLT, Nat.reduceLeDiff, Nat.reduceMul, Nat.reduceSub, reduceCtorEq, tbLW3, Tryd.results33, gr, g6, g7, g8, h2, h3, h6, h7]
    refine OkF_with [_, _] [_, _, _] (List.Perm.refl _) (sortedK [] (by simp) b1' b6 hb1') ?_
    rintro v bs rs ⟨rfl, rfl, rfl⟩
    simp only [↓rA, rB, Int.reduceEq, Int.reduceLE, Int.reduceLT, Int.reduceToNat, Nat.reduceAdd, Nat.reduceEqDiff, Nat.reduceLT, Nat.reduceLeDiff, Nat.reduceMul, Nat.reduceSub, reduceCtorEq, tbLW3, Tryd.results33, gr, g6, g7, g8, h2, h3, h6, h7]
    refine OkF_with [_] [_, _, _] (List.Perm.swap _ _ _) (keys_ok b7 _) ?_
    rintro v bs rs ⟨b8, hb8, rfl, rfl, rfl⟩
    simp only [↓rA, rB, Int.reduceEq, Int.reduceLE, Int.reduceLT, Int.reduceToNat, Nat.reduceAdd, Nat.reduceEqDiff, Nat.reduceLT, Nat.reduceLeDiff, Nat.reduceMul, Nat.reduceSub, reduceCtorEq, tbLW3, Tryd.results33, gr, g6, g7, g8, h2, h3, h6, h7]
    refine OkF_with [_, _] [_, _, _] (List.Perm.refl _) (sortedK O hO b8 b7 hb8) ?_
    rintro v bs rs ⟨rfl, rfl, rfl⟩
    simp only [↓rA, rB, Int.reduceEq, Int.reduceLE, Int.reduceLT, Int.reduceToNat, Nat.reduceAdd, Nat.reduceEqDiff, Nat.reduceLT, Nat.reduceLeDiff, Nat.reduceMul, Nat.reduceSub, reduceCtorEq, tbLW3, Tryd.results33, gr, g6, g7, g8, h2, h3, h6, h7]
    exact ret_done rfl
set_option linter.defProp false in
def tbLW4 := (And.intro (And.intro (And.intro (And.intro (And.intro (And.intro (And.intro Ty.sz3 Ty.by3) (And.intro Ty.ag3 (And.intro Ty.zr3 Ty.un3))) (And.intro (And.intro Ty.sz4 Ty.by4) (And.intro Ty.ag4 (And.intro Ty.zr4 Ty.un4)))) (And.intro (And.intro (And.intro Ty.sz9 Ty.by9) (And.intro Ty.ag9 (And.intro Ty.zr9 Ty.un9))) (And.intro (And.intro Ty.sz23 (And.intro Ty.by23 Ty.ag23)) (And.intro Ty.zr23 (And.intro Ty.fl23_0 Ty.pl23_0))))) (And.intro (And.intro (And.intro (And.intro Ty.fl23_1 Ty.pl23_1) (And.intro Ty.fl23_2 (And.intro Ty.pl23_2 Ty.sz24))) (And.intro (And.intro Ty.by24 Ty.ag24) (And.intro Ty.zr24 (And.intro Ty.un24 Ty.sz26)))) (And.intro (And.intro (And.intro Ty.by26 Ty.ag26) (And.intro Ty.zr26 (And.intro Ty.fl26_0 Ty.pl26_0))) (And.intro (And.intro Ty.fl26_1 (And.intro Ty.pl26_1 Ty.sz27)) (And.intro Ty.by27 (And.intro Ty.ag27 Ty.zr27)))))) (And.intro (And.intro (And.intro (And.intro (And.intro Ty.un27 Ty.sz29) (And.intro Ty.by29 (And.intro Ty.ag29 Ty.zr29))) (And.intro (And.intro Ty.fl29_0 Ty.pl29_0) (And.intro Ty.fl29_1 (And.intro Ty.pl29_1 Ty.fl29_2)))) (And.intro (And.intro (And.intro Ty.pl29_2 Ty.fl29_3) (And.intro Ty.pl29_3 (And.intro Ty.fl29_4 Ty.pl29_4))) (And.intro (And.intro Ty.fl29_5 (And.intro Ty.pl29_5 Ty.fl29_6)) (And.intro Ty.pl29_6 (And.intro Ty.fl29_7 Ty.pl29_7))))) (And.intro (And.intro (And.intro (And.intro Ty.fl29_8 Ty.pl29_8) (And.intro Ty.sz56 (And.intro Ty.by56 Ty.ag56))) (And.intro (And.intro Ty.zr56 (And.intro Ty.fl56_0 Ty.pl56_0)) (And.intro Ty.fl56_1 (And.intro Ty.pl56_1 Ty.fl56_2)))) (And.intro (And.intro (And.intro Ty.pl56_2 Ty.sz58) (And.intro Ty.by58 (And.intro Ty.ag58 Ty.zr58))) (And.intro (And.intro Ty.fl58_0 (And.intro Ty.pl58_0 Ty.fl58_1)) (And.intro Ty.pl58_1 (And.intro Ty.fl58_2 Ty.pl58_2))))))) (And.intro (And.intro (And.intro (And.intro (And.intro (And.intro Ty.fl58_3 Ty.pl58_3) (And.intro Ty.fl58_4 (And.intro Ty.pl58_4 Ty.sz60))) (And.intro (And.intro Ty.by60 Ty.ag60) (And.intro Ty.zr60 (And.intro Ty.fl60_0 Ty.pl60_0)))) (And.intro (And.intro (And.intro Ty.fl60_1 Ty.pl60_1) (And.intro Ty.sz61 (And.intro Ty.by61 Ty.ag61))) (And.intro (And.intro Ty.zr61 (And.intro Ty.un61 Ty.sz63)) (And.intro Ty.by63 (And.intro Ty.ag63 Ty.zr63))))) (And.intro (And.intro (And.intro (And.intro Ty.fl63_0 Ty.pl63_0) (And.intro Ty.fl63_1 (And.intro Ty.pl63_1 Ty.fl63_2))) (And.intro (And.intro Ty.pl63_2 (And.intro Ty.fl63_3 Ty.pl63_3)) (And.intro Ty.sz64 (And.intro Ty.by64 Ty.ag64)))) (And.intro (And.intro (And.intro Ty.zr64 Ty.un64) (And.intro Ty.sz65 (And.intro Ty.by65 Ty.ag65))) (And.intro (And.intro Ty.zr65 (And.intro Ty.un65 Ty.sz67)) (And.intro Ty.by67 (And.intro Ty.ag67 Ty.zr67)))))) (And.intro (And.intro (And.intro (And.intro (And.intro Ty.fl67_0 Ty.pl67_0) (And.intro Ty.fl67_1 (And.intro Ty.pl67_1 Ty.fl67_2))) (And.intro (And.intro Ty.pl67_2 Ty.fl67_3) (And.intro Ty.pl67_3 (And.intro Ty.sz82 Ty.by82)))) (And.intro (And.intro (And.intro Ty.ag82 Ty.zr82) (And.intro Ty.un82 (And.intro Ty.sz86 Ty.by86))) (And.intro (And.intro Ty.ag86 (And.intro Ty.sz94 Ty.by94)) (And.intro Ty.ag94 (And.intro Ty.zr94 Ty.un94))))) (And.intro (And.intro (And.intro (And.intro Ty.sz98 Ty.by98) (And.intro Ty.ag98 (And.intro Ty.zr98 Ty.sz105))) (And.intro (And.intro Ty.by105 (And.intro Ty.ag105 Ty.zr105)) (And.intro Ty.fl105_0 (And.intro Ty.pl105_0 Ty.fl105_1)))) (And.intro (And.intro (And.intro Ty.pl105_1 Ty.eq23) (And.intro Ty.eq26 (And.intro Ty.eq105 Ty.mp94))) (And.intro (And.intro Ty.cb29 (And.intro Ty.cb31 Ty.cb34)) (And.intro Ty.cb44 (And.intro Ty.cb45 Ty.cb46))))))))
theorem uses_one (c : Cat) (x : E) (hf : Fit x) (hfe : c.features.length ≤ big) (f : Str) (g : Ftr) (hg : Fit g.body) (O O' : List Str) (hd : dirE x ([], []) = ([f], O)) (hfi : findF c.features f = some g) (hd' : dirE g.body ([], O) = ([], O')) (hO' : O'.length ≤ 1) : OkP Tryd.prog 33 [vCat c, vE x] (.tup [vstrs [f], vstrs O']) := by
  have hx := fun b1 b2 hb => direct_ok x hf ([], []) b1 b2 hb
  have hx' := fun b1 b2 hb => direct_ok g.body hg ([], O) b1 b2 hb
  rw [hd] at hx
  rw [hd'] at hx'
  have hfo := feature_ok c f hfe
  rw [hfi] at hfo
  simp only [vFind, cFtr_eq] at hfo
  simp only [vE, cE_eq x, cE_eq g.body] at hx hx' ⊢
  refine Ok.of_ex Ty.mixed Tryd.func33 rfl (by simp [Tryd.ntmps33]) (by kernel_rfl) fun F w0 I0 => ?_
  simp only [↓rA, rB, Int.reduceEq, Int.reduceLE, Int.reduceLT, Int.reduceToNat, Nat.reduceAdd, Nat.reduceEqDiff, Nat.reduceLT, Nat.reduceLeDiff, Nat.reduceMul, Nat.reduceSub, reduceCtorEq, tbLW4, Tryd.results33]
  refine fun b2 h2 => ?_; replace h2 := newb h2; try simp only [Nb] at h2
  simp only [↓rA, rB, Int.reduceEq, Int.reduceLE, Int.reduceLT, Int.reduceToNat, Nat.reduceAdd, Nat.reduceEqDiff, Nat.reduceLT, Nat.reduceLeDiff, Nat.reduceMul, Nat.reduceSub, reduceCtorEq, tbLW4, Tryd.results33, h2]
  refine fun b3 h3 => ?_; replace h3 := newb h3; try simp only [Nb] at h3
  simp only [↓rA, rB, Int.reduceEq, Int.reduceLE, Int.reduceLT, Int.reduceToNat, Nat.reduceAdd, Nat.reduceEqDiff, Nat.reduceLT, Nat.reduceLeDiff, Nat.reduceMul, Nat.reduceSub, reduceCtorEq, tbLW4, Tryd.results33, h2, h3]
  refine fun b6 h6 => ?_; replace h6 := newb h6; try simp only [Nb] at h6
  simp only [↓rA, rB, Int.reduceEq, Int.reduceLE, Int.reduceLT, Int.reduceToNat, Nat.reduceAdd, Nat.reduceEqDiff, Nat.reduceLT, Nat.reduceLeDiff, Nat.reduceMul, Nat.reduceSub, reduceCtorEq, tbLW4, Tryd.results33, h2, h3, h6]
  refine fun b7 h7 => ?_; replace h7 := newb h7; try simp only [Nb] at h7
  simp only [↓rA, rB, Int.reduceEq, Int.reduceLE, Int.reduceLT, Int.reduceToNat, Nat.reduceAdd, Nat.reduceEqDiff, Nat.reduceLT, Nat.reduceLeDiff, Nat.reduceMul, Nat.reduceSub, reduceCtorEq, tbLW4, Tryd.results33, h2, h3, h6, h7]
  refine OkF_with [_, _] [_, _] (List.Perm.swap _ _ _) (hx b6 b7 ⟨h7.1.1, h7.1.2⟩) ?_
  rintro v bs rs ⟨rfl, rfl, rfl⟩
  simp only [↓rA, rB, Int.reduceEq, Int.reduceLE, Int.reduceLT, Int.reduceToNat, Nat.reduceAdd, Nat.reduceEqDiff, Nat.reduceLT, Nat.reduceLeDiff, Nat.reduceMul, Nat.reduceSub, reduceCtorEq, tbLW4, Tryd.results33, h2, h3, h6, h7]
  refine OkF_with [_] [_, _, _] (List.Perm.refl _) (keys_ok b6 _) ?_
  rintro v bs rs ⟨b1, hb1, rfl, rfl, rfl⟩
  simp only [↓rA, rB, Int.reduceEq, Int.reduceLE, Int.reduceLT, Int.reduceToNat, Nat.reduceAdd, Nat.reduceEqDiff, Nat.reduceLT, Nat.reduceLeDiff, Nat.reduceMul, Nat.reduceSub, reduceCtorEq, tbLW4, Tryd.results33, h2, h3, h6, h7]
  refine OkF_with [_, _] [_, _, _] (List.Perm.refl _) (sortedK [f] (by simp) b1 b6 hb1) ?_
  rintro v bs rs ⟨rfl, rfl, rfl⟩
  simp only [↓rA, rB, Int.reduceEq, Int.reduceLE, Int.reduceLT, Int.reduceToNat, Nat.reduceAdd, Nat.reduceEqDiff, Nat.reduceLT, Nat.reduceLeDiff, Nat.reduceMul, Nat.reduceSub, reduceCtorEq, tbLW4, Tryd.results33, h2, h3, h6, h7]
  refine EX_whileP Ty.mixed (by kernel_rfl) (fun t : Bool => if t then 0 else 1) (fun t S => (if t = true then S.boxes = [(b6, mS [f]), (b7, mS O'), (b3, .c (cH x.hd (vEs x.args))), (b2, .c (cCat c))] ∧ S.σ 8 = V.list none 1 [] else S.boxes = [(b6, mS [f]), (b7, mS O), (b3, .c (cH x.hd (vEs x.args))), (b2, .c (cCat c))] ∧ S.σ 8 = vstrs [f]) ∧ S.rows = [] ∧ S.σ 6 = mp b6 ∧ S.σ 7 = mp b7 ∧ S.σ 2 = ptr b2) false ⟨_, _, _, _, List.Sublist.refl _, List.Sublist.refl _, List.Perm.refl _, List.Perm.refl _, ?_⟩ (fun t S ⟨gx, gr, g6, g7, g2⟩ => ?_)
  · simp only [↓rA, rB, Int.reduceEq, Int.reduceLE, Int.reduceLT, Int.reduceToNat, Nat.reduceAdd, Nat.reduceEqDiff, Nat.reduceLT, Nat.reduceLeDiff, Nat.reduceMul, Nat.reduceSub, reduceCtorEq, tbLW4, Tryd.results33, h2, h3, h6, h7]
  · cases t with
    | true =>
      simp only [if_true] at gx
      obtain ⟨gb, g8⟩ := gx
      simp only [↓rA, rB, Int.reduceEq, Int.reduceLE, Int.reduceLT, Int.reduceToNat, Nat.reduceAdd, Nat.reduceEqDiff, Nat.reduceLT, Nat.reduceLeDiff, Nat.reduceMul, Nat.reduceSub, reduceCtorEq, tbLW4, Tryd.results33, gb, gr, g6, g7, g8, h2, h3, h6, h7]
      refine OkF_with [_] [_, _, _] (List.Perm.refl _) (keys_ok b6 _) ?_
      rintro v bs rs ⟨b1', hb1', rfl, rfl, rfl⟩
      simp only [↓rA, rB, Int.reduceEq, Int.reduceLE, Int.reduceLT, Int.reduceToNat, Nat.reduceAdd, Nat.reduceEqDiff, Nat.reduceLT, Nat.reduceLeDiff, Nat.reduceMul, Nat.reduceSub, reduceCtorEq, tbLW4, Tryd.results33, gr, g6, g7, g8, h2, h3, h6, h7]
      refine OkF_with [_, _] [_, _, _] (List.Perm.refl _) (sortedK [f] (by simp) b1' b6 hb1') ?_
      rintro v bs rs ⟨rfl, rfl, rfl⟩
      simp only [↓rA, rB, Int.reduceEq, Int.reduceLE, Int.reduceLT, Int.reduceToNat, Nat.reduceAdd, Nat.reduceEqDiff, Nat.reduceLT, Nat.reduceLeDiff, Nat.reduceMul, Nat.reduceSub, reduceCtorEq, tbLW4, Tryd.results33, gr, g6, g7, g8, h2, h3, h6, h7]
      refine OkF_with [_] [_, _, _] (List.Perm.swap _ _ _) (keys_ok b7 _) ?_
      rintro v bs rs ⟨b8, hb8, rfl, rfl, rfl⟩
      simp only [↓rA, rB, Int.reduceEq, Int.reduceLE, Int.reduceLT, Int.reduceToNat, Nat.reduceAdd, Nat.reduceEqDiff, Nat.reduceLT, Nat.reduceLeDiff, Nat.reduceMul, Nat.reduceSub, reduceCtorEq, tbLW4, Tryd.results33, gr, g6, g7, g8, h2, h3, h6, h7]
      refine OkF_with [_, _] [_, _, _] (List.Perm.refl _) (sortedK O' hO' b8 b7 hb8) ?_
      rintro v bs rs ⟨rfl, rfl, rfl⟩
      simp only [↓rA, rB, Int.reduceEq, Int.reduceLE, Int.reduceLT, Int.reduceToNat, Nat.reduceAdd, Nat.reduceEqDiff, Nat.reduceLT, Nat.reduceLeDiff, Nat.reduceMul, Nat.reduceSub, reduceCtorEq, tbLW4, Tryd.results33, gr, g6, g7, g8, h2, h3, h6, h7]
      exact ret_done rfl
    | false =>
      simp only [Bool.false_eq_true, if_false] at gx
      obtain ⟨gb, g8⟩ := gx
      have i0 : (0 : Int) < ((1 : Nat) : Int) := by decide
      simp only [↓rA, rB, Int.reduceEq, Int.reduceLE, Int.reduceLT, Int.reduceToNat, Nat.reduceAdd, Nat.reduceEqDiff, Nat.reduceLT, Nat.reduceLeDiff, Nat.reduceMul, Nat.reduceSub, reduceCtorEq, tbLW4, Tryd.results33, gb, gr, g6, g7, g8, g2, h2, h3, h6, h7, i0]
      refine OkF_of _ hfo ?_
      simp only [↓rA, rB, Int.reduceEq, Int.reduceLE, Int.reduceLT, Int.reduceToNat, Nat.reduceAdd, Nat.reduceEqDiff, Nat.reduceLT, Nat.reduceLeDiff, Nat.reduceMul, Nat.reduceSub, reduceCtorEq, tbLW4, Tryd.results33, gb, gr, g6, g7, g8, g2, h2, h3, h6, h7, i0]
      refine fun b10 h10 => ?_; replace h10 := newb h10; try simp only [Nb] at h10
      simp only [↓rA, rB, Int.reduceEq, Int.reduceLE, Int.reduceLT, Int.reduceToNat, Nat.reduceAdd, Nat.reduceEqDiff, Nat.reduceLT, Nat.reduceLeDiff, Nat.reduceMul, Nat.reduceSub, reduceCtorEq, tbLW4, Tryd.results33, gb, gr, g6, g7, g8, g2, h2, h3, h6, h7, h10, i0]
      refine fun b12 h12 => ?_; replace h12 := newb h12; try simp only [Nb] at h12
      simp only [↓rA, rB, Int.reduceEq, Int.reduceLE, Int.reduceLT, Int.reduceToNat, Nat.reduceAdd, Nat.reduceEqDiff, Nat.reduceLT, Nat.reduceLeDiff, Nat.reduceMul, Nat.reduceSub, reduceCtorEq, tbLW4, Tryd.results33, gb, gr, g6, g7, g8, g2, h2, h3, h6, h7, h10, h12, i0]
      refine OkF_with [(b12, B.m ([Sh.s], false) [] 0), (b7, mS O)] [(b10, B.c (cF g g.body.hd (vEs g.body.args))), (b6, mS [f]), (b3, B.c (cH x.hd (vEs x.args))), (b2, B.c (cCat c))] (List.Perm.cons _ (List.perm_middle (l₁ := [_, _]) (l₂ := [_, _]))) (hx' b12 b7 ⟨h12.2.2.1.2, h12.2.2.1.1⟩) ?_
      rintro v bs rs ⟨rfl, rfl, rfl⟩
      simp only [↓rA, rB, Int.reduceEq, Int.reduceLE, Int.reduceLT, Int.reduceToNat, Nat.reduceAdd, Nat.reduceEqDiff, Nat.reduceLT, Nat.reduceLeDiff, Nat.reduceMul, Nat.reduceSub, reduceCtorEq, tbLW4, Tryd.results33, gr, g6, g7, g2, h2, h3, h6, h7, h10, h12]
      refine fun ib hi => ?_; replace hi := newb hi; try simp only [Nb] at hi
      simp only [↓rA, rB, Int.reduceEq, Int.reduceLE, Int.reduceLT, Int.reduceToNat, Nat.reduceAdd, Nat.reduceEqDiff, Nat.reduceLT, Nat.reduceLeDiff, Nat.reduceMul, Nat.reduceSub, reduceCtorEq, tbLW4, Tryd.results33, gr, g6, g7, g2, h2, h3, h6, h7, h10, h12, hi]
      refine EX_whileP Ty.mixed (by kernel_rfl) (fun _ : Nat => 0) (fun _ S => S.boxes = [(ib, .it b12 0 [] 0), (b12, mS []), (b7, mS O'), (b10, B.c (cF g g.body.hd (vEs g.body.args))), (b6, mS [f]), (b3, B.c (cH x.hd (vEs x.args))), (b2, B.c (cCat c))] ∧ S.rows = [] ∧ S.σ 46 = ptr ib ∧ S.σ 6 = mp b6 ∧ S.σ 7 = mp b7 ∧ S.σ 2 = ptr b2 ∧ S.σ 8 = V.list none 1 []) 0 ⟨_, _, _, _, List.Sublist.refl _, List.Sublist.refl _, List.Perm.refl _, List.Perm.refl _, ?_⟩ (fun _ S ⟨gb, gr, g46, g6, g7, g2, g8⟩ => ?_)
      · simp only [↓rA, rB, Int.reduceEq, Int.reduceLE, Int.reduceLT, Int.reduceToNat, Nat.reduceAdd, Nat.reduceEqDiff, Nat.reduceLT, Nat.reduceLeDiff, Nat.reduceMul, Nat.reduceSub, reduceCtorEq, tbLW4, Tryd.results33, h2, h3, h6, h7, h10, h12, hi, gr, g6, g7, g2]
      · simp only [↓rA, rB, Int.reduceEq, Int.reduceLE, Int.reduceLT, Int.reduceToNat, Nat.reduceAdd, Nat.reduceEqDiff, Nat.reduceLT, Nat.reduceLeDiff, Nat.reduceMul, Nat.reduceSub, reduceCtorEq, tbLW4, Tryd.results33, gb, gr, g46, h2, h3, h6, h7, h10, h12, hi]
        refine ⟨fun _ => ?_, fun e he => ?_⟩
        · simp only [↓rA, rB, Int.reduceEq, Int.reduceLE, Int.reduceLT, Int.reduceToNat, Nat.reduceAdd, Nat.reduceEqDiff, Nat.reduceLT, Nat.reduceLeDiff, Nat.reduceMul, Nat.reduceSub, reduceCtorEq, tbLW4, Tryd.results33, gb, gr, g46, g6, g7, g2, g8, h2, h3, h6, h7, h10, h12, hi]
          refine ⟨true, by decide, [(b7, mS O'), (b6, mS [f]), (b3, B.c (cH x.hd (vEs x.args))), (b2, B.c (cCat c))], [], [(b6, mS [f]), (b7, mS O'), (b3, B.c (cH x.hd (vEs x.args))), (b2, B.c (cCat c))], [], ?_, List.nil_sublist _, List.Perm.swap _ _ _, List.Perm.refl _, ?_⟩
          · simp only [↓rA, rB, Int.reduceEq, Int.reduceLE, Int.reduceLT, Int.reduceToNat, Nat.reduceAdd, Nat.reduceEqDiff, Nat.reduceLT, Nat.reduceLeDiff, Nat.reduceMul, Nat.reduceSub, reduceCtorEq, tbLW4, Tryd.results33, gb]
            exact .cons _ (.cons _ (.cons_cons _ (.cons _ (List.Sublist.refl _))))
          simp only [↓rA, rB, Int.reduceEq, Int.reduceLE, Int.reduceLT, Int.reduceToNat, Nat.reduceAdd, Nat.reduceEqDiff, Nat.reduceLT, Nat.reduceLeDiff, Nat.reduceMul, Nat.reduceSub, reduceCtorEq, tbLW4, Tryd.results33, gb, gr, g46, g6, g7, g2, g8, h2, h3, h6, h7, h10, h12, hi]
        · rw [left0] at he; cases he
end Go.Proofs.YtphkmlogjgeipaaDoor

