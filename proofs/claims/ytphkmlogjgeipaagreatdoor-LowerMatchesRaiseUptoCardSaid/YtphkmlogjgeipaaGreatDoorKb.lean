/- Merged out of my texts LI LN LJ LK LP LT LQ LU LW LX LO LY LZ L1 L2 L3. -/
import Derived.Test.YtphkmlogjgeipaaGreatDoorKa
import Derived.Test.YtphkmlogjgeipaaGreatDoorVH
import Derived.Test.YtphkmlogjgeipaaGreatDoorVPm
import Derived.Test.YtphkmlogjgeipaaGreatDoorVN
import Derived.Shelf.SortG.Plain
import Derived.KernelRfl
import Derived.Test.YtphkmlogjgeipaaGreatDoorProg
import Derived.Test.YtphkmlogjgeipaaGreatDoorVFn
import Derived.Shelf.SortG.SortNone
set_option linter.unusedVariables false
/- Contracts of lowering, part h: the shared list takes a node in. Printed by mkLI.py. -/
set_option linter.unusedSimpArgs false
set_option maxRecDepth 100000
namespace Go.Proofs.YtphkmlogjgeipaaGreatDoor
open Go.VL Go.Ar Go.Lo Go.Proofs.YtphkmlogjgeipaaGreatDoor

/-- How the shared list lies in memory. -/
def Sh (s : Nat) (L : List Nd) (bs : List (Nat × B)) : Prop :=
  (L = [] ∧ bs = [(s, .c [nilS, fnN])]) ∨ ∃ g c rest, L ≠ [] ∧ (s ≠ g ∧ g ≠ s) ∧ L.length ≤ c ∧ rest.length = (c - L.length) * 23 ∧ bs = [(g, bN L rest), (s, .c [slN g L.length c, fnN])]
abbrev pt' (b o : Nat) : V := .lit (.pointer (some ⟨b, o, none⟩))
abbrev cX (x : Nd) : List V := cN x x.expr.hd (vEs x.expr.args) (vints x.inn)
abbrev base (b2 b3 s : Nat) (x : Nd) (u : V) : List (Nat × B) := [(b3, .c (cX x)), (b2, .c [ptr s]), (s, .c [u, fnN])]
/-- The region that appends: what its operations have done; M cells' rows ahead, in 'pre'. -/
def InP (b2 b3 s : Nat) (x : Nd) (sl : V) (G : List (Nat × B)) (M : Nat) (pre : List V) (L : Nat → Bool) (S : St) : Prop :=
  S.σ 2 = ptr b2 ∧ S.σ 3 = ptr b3 ∧ (L 0 = true → S.σ 15 = ptr s) ∧ (L 1 = true → S.σ 16 = ptr s) ∧ (L 2 = true → S.σ 17 = ptr s) ∧ (L 3 = true → S.σ 18 = pt' s 0) ∧ (L 4 = true → S.σ 19 = sl) ∧ (L 5 = true → S.σ 20 = .agg (cX x)) ∧
  (L 8 = true → S.σ 23 = ptr s) ∧ (L 9 = true → S.σ 24 = pt' s 0) ∧ (L 7 = true → L 4 = true ∧ L 6 = true) ∧ (L 10 = true → L 7 = true) ∧
  ((L 6 = false ∧ S.rows = []) ∨ ∃ y, L 6 = true ∧ S.rows = [⟨y, 23, 47⟩] ∧ S.σ 21 = .list (some y) 23 [cX x]) ∧
  ((L 7 = false ∧ S.boxes = base b2 b3 s x sl ++ G) ∨ ∃ g c, L 7 = true ∧ Nb g (base b2 b3 s x sl) ∧ M + 1 ≤ c ∧ S.σ 22 = slN g (M + 1) c ∧ S.boxes = (g, .c (pre ++ (cX x ++ anys ((c - (M + 1)) * 23)))) :: base b2 b3 s x (bif L 10 then slN g (M + 1) c else sl))

set_option linter.defProp false in
def tbLI0 := (aI (aI (aI (aI (aI (aI (aI Ty.sz3 Ty.by3) (aI Ty.ag3 Ty.zr3)) (aI (aI Ty.un3 Ty.sz4) (aI Ty.by4 Ty.ag4))) (aI (aI (aI Ty.zr4 Ty.un4) (aI Ty.sz9 Ty.by9)) (aI (aI Ty.ag9 Ty.zr9) (aI Ty.un9 Ty.sz22)))) (aI (aI (aI (aI Ty.by22 Ty.ag22) (aI Ty.zr22 Ty.un22)) (aI (aI Ty.sz28 Ty.by28) (aI Ty.ag28 Ty.zr28))) (aI (aI (aI Ty.fl28_0 Ty.pl28_0) (aI Ty.fl28_1 Ty.pl28_1)) (aI (aI Ty.fl28_2 Ty.pl28_2) (aI Ty.sz29 Ty.by29))))) (aI (aI (aI (aI (aI Ty.ag29 Ty.zr29) (aI Ty.un29 Ty.sz31)) (aI (aI Ty.by31 Ty.ag31) (aI Ty.zr31 Ty.fl31_0))) (aI (aI (aI Ty.pl31_0 Ty.fl31_1) (aI Ty.pl31_1 Ty.sz32)) (aI (aI Ty.by32 Ty.ag32) (aI Ty.zr32 Ty.un32)))) (aI (aI (aI (aI Ty.sz34 Ty.by34) (aI Ty.ag34 Ty.zr34)) (aI (aI Ty.fl34_0 Ty.pl34_0) (aI Ty.fl34_1 Ty.pl34_1))) (aI (aI (aI Ty.fl34_2 Ty.pl34_2) (aI Ty.fl34_3 Ty.pl34_3)) (aI (aI Ty.fl34_4 Ty.pl34_4) (aI Ty.fl34_5 (aI Ty.pl34_5 Ty.fl34_6))))))) (aI (aI (aI (aI (aI (aI Ty.pl34_6 Ty.fl34_7) (aI Ty.pl34_7 Ty.fl34_8)) (aI (aI Ty.pl34_8 Ty.sz45) (aI Ty.by45 Ty.ag45))) (aI (aI (aI Ty.zr45 Ty.un45) (aI Ty.sz47 Ty.by47)) (aI (aI Ty.ag47 Ty.zr47) (aI Ty.fl47_0 Ty.pl47_0)))) (aI (aI (aI (aI Ty.fl47_1 Ty.pl47_1) (aI Ty.fl47_2 Ty.pl47_2)) (aI (aI Ty.fl47_3 Ty.pl47_3) (aI Ty.fl47_4 Ty.pl47_4))) (aI (aI (aI Ty.fl47_5 Ty.pl47_5) (aI Ty.fl47_6 Ty.pl47_6)) (aI (aI Ty.fl47_7 Ty.pl47_7) (aI Ty.fl47_8 (aI Ty.pl47_8 Ty.sz67)))))) (aI (aI (aI (aI (aI Ty.by67 Ty.ag67) (aI Ty.zr67 Ty.sz72)) (aI (aI Ty.by72 Ty.ag72) (aI Ty.zr72 Ty.un72))) (aI (aI (aI Ty.sz74 Ty.by74) (aI Ty.ag74 Ty.zr74)) (aI (aI Ty.fl74_0 Ty.pl74_0) (aI Ty.fl74_1 Ty.pl74_1)))) (aI (aI (aI (aI Ty.sz93 Ty.by93) (aI Ty.ag93 Ty.zr93)) (aI (aI Ty.sz103 Ty.by103) (aI Ty.ag103 Ty.zr103))) (aI (aI (aI Ty.fl103_0 Ty.pl103_0) (aI Ty.fl103_1 Ty.pl103_1)) (aI (aI Ty.eq28 Ty.eq31) (aI Ty.eq103 (aI Ty.cb47 Ty.cb48))))))))
set_option maxHeartbeats 4000000 in
theorem put_nil (x : Nd) (s : Nat) : Ok Tryz.prog 29 [ptr s, .agg (cNd x)] [(s, .c [nilS, fnN])] fun v bs rs => v = vint 0 ∧ Sh s [x] bs ∧ rs = [] := by
  have hq := indexNd_nil x s
  simp only [cNd_eq] at hq ⊢
  refine Ok.of_exM [(4, 3)] Ty.mixed Tryz.func29 rfl (by simp [Tryz.ntmps29]) (by kernel_rfl) fun F w0 I0 => ?_
  simp only [↓rA, rB]
  refine fun b2 h2 => ?_; replace h2 := newb h2; try simp only [Nb] at h2
  simp only [↓rA, rB, Nat.reduceEqDiff]
  refine fun b3 h3 => ?_; replace h3 := newb h3; try simp only [Nb] at h3
  simp only [↓rA, rB, Nat.reduceAdd, Nat.reduceEqDiff, tbLI0, h2, h3]
  refine OkF_with [_, _, _] [] (List.Perm.refl _) (hq b2 b3) ?_
  rintro v bs rs ⟨rfl, rfl, rfl⟩
  simp only [↓rA, rB, Int.reduceLE, Tryz.results29]
  have hs := And.intro h2 h3
  refine EX_invA Ty.mixed (by kernel_rfl) (by kernel_rfl) (InP b2 b3 s x nilS [] 0 []) ?_ ?_ ?_
  · exact ⟨rfl, rfl, (fun h => by cases h), (fun h => by cases h), (fun h => by cases h), (fun h => by cases h), (fun h => by cases h), (fun h => by cases h), (fun h => by cases h), (fun h => by cases h), (fun h => by cases h), (fun h => by cases h), .inl ⟨rfl, rfl⟩, .inl ⟨rfl, rfl⟩⟩
  · intro L S i o ho hL he ⟨g2, g3, f0, f1, f2, f3, f4, f5, f8, f9, d7, d10, hr, hb⟩
    match i, ho with
    | 0, ho =>
      cases ho
      have hb0 := hb
      have hr0 := hr
      rcases hb0 with ⟨h7, gb⟩ | ⟨g, c, h7, n, hc, g22, gb⟩ <;> rcases hr0 with ⟨h6, gr⟩ | ⟨y, h6, gr, g21⟩
      · simp only [↓rA, rB, tbLI0, g2, gb, hs]
        exact ⟨g2, g3, fun _ => rfl, f1, f2, f3, f4, f5, f8, f9, d7, d10, hr, hb⟩
      · simp only [↓rA, rB, tbLI0, g2, gb, hs]
        exact ⟨g2, g3, fun _ => rfl, f1, f2, f3, f4, f5, f8, f9, d7, d10, hr, hb⟩
      · simp only [Nb] at n
        simp only [↓rA, rB, tbLI0, g2, gb, hs, n]
        exact ⟨g2, g3, fun _ => rfl, f1, f2, f3, f4, f5, f8, f9, d7, d10, hr, hb⟩
      · simp only [Nb] at n
        simp only [↓rA, rB, tbLI0, g2, gb, hs, n]
        exact ⟨g2, g3, fun _ => rfl, f1, f2, f3, f4, f5, f8, f9, d7, d10, hr, hb⟩
    | 1, ho =>
      cases ho
      have hb0 := hb
      have hr0 := hr
      rcases hb0 with ⟨h7, gb⟩ | ⟨g, c, h7, n, hc, g22, gb⟩ <;> rcases hr0 with ⟨h6, gr⟩ | ⟨y, h6, gr, g21⟩
      · simp only [↓rA, rB, tbLI0, g2, gb, hs]
        exact ⟨g2, g3, f0, fun _ => rfl, f2, f3, f4, f5, f8, f9, d7, d10, hr, hb⟩
      · simp only [↓rA, rB, tbLI0, g2, gb, hs]
        exact ⟨g2, g3, f0, fun _ => rfl, f2, f3, f4, f5, f8, f9, d7, d10, hr, hb⟩
      · simp only [Nb] at n
        simp only [↓rA, rB, tbLI0, g2, gb, hs, n]
        exact ⟨g2, g3, f0, fun _ => rfl, f2, f3, f4, f5, f8, f9, d7, d10, hr, hb⟩
      · simp only [Nb] at n
        simp only [↓rA, rB, tbLI0, g2, gb, hs, n]
        exact ⟨g2, g3, f0, fun _ => rfl, f2, f3, f4, f5, f8, f9, d7, d10, hr, hb⟩
    | 2, ho =>
      cases ho
      have q1 := f1 (he ⟨1, .data⟩ (by simp) rfl)
      have hb0 := hb
      have hr0 := hr
      rcases hb0 with ⟨h7, gb⟩ | ⟨g, c, h7, n, hc, g22, gb⟩ <;> rcases hr0 with ⟨h6, gr⟩ | ⟨y, h6, gr, g21⟩
      · simp only [↓rA, rB, q1]
        exact ⟨g2, g3, f0, f1, fun _ => rfl, f3, f4, f5, f8, f9, d7, d10, hr, hb⟩
      · simp only [↓rA, rB, q1]
        exact ⟨g2, g3, f0, f1, fun _ => rfl, f3, f4, f5, f8, f9, d7, d10, hr, hb⟩
      · simp only [Nb] at n
        simp only [↓rA, rB, q1]
        exact ⟨g2, g3, f0, f1, fun _ => rfl, f3, f4, f5, f8, f9, d7, d10, hr, hb⟩
      · simp only [Nb] at n
        simp only [↓rA, rB, q1]
        exact ⟨g2, g3, f0, f1, fun _ => rfl, f3, f4, f5, f8, f9, d7, d10, hr, hb⟩
    | 3, ho =>
      cases ho
      have q2 := f2 (he ⟨2, .data⟩ (by simp) rfl)
      have hb0 := hb
      have hr0 := hr
      rcases hb0 with ⟨h7, gb⟩ | ⟨g, c, h7, n, hc, g22, gb⟩ <;> rcases hr0 with ⟨h6, gr⟩ | ⟨y, h6, gr, g21⟩
      · simp only [↓rA, rB, tbLI0, q2]
        exact ⟨g2, g3, f0, f1, f2, fun _ => rfl, f4, f5, f8, f9, d7, d10, hr, hb⟩
      · simp only [↓rA, rB, tbLI0, q2]
        exact ⟨g2, g3, f0, f1, f2, fun _ => rfl, f4, f5, f8, f9, d7, d10, hr, hb⟩
      · simp only [Nb] at n
        simp only [↓rA, rB, tbLI0, q2]
        exact ⟨g2, g3, f0, f1, f2, fun _ => rfl, f4, f5, f8, f9, d7, d10, hr, hb⟩
      · simp only [Nb] at n
        simp only [↓rA, rB, tbLI0, q2]
        exact ⟨g2, g3, f0, f1, f2, fun _ => rfl, f4, f5, f8, f9, d7, d10, hr, hb⟩
    | 4, ho =>
      cases ho
      have q3 := f3 (he ⟨3, .data⟩ (by simp) rfl)
      have hb0 := hb
      have hr0 := hr
      rcases hb0 with ⟨h7, gb⟩ | ⟨g, c, h7, n, hc, g22, gb⟩
      · have d7' : also L 4 7 = true → also L 4 4 = true ∧ also L 4 6 = true := fun h => by
          have : L 7 = true := h
          rw [h7] at this; cases this
        rcases hr0 with ⟨h6, gr⟩ | ⟨y, h6, gr, g21⟩
        · simp only [↓rA, rB, tbLI0, gb, hs, q3]
          exact ⟨g2, g3, f0, f1, f2, f3, fun _ => rfl, f5, f8, f9, d7', d10, hr, hb⟩
        · simp only [↓rA, rB, tbLI0, gb, hs, q3]
          exact ⟨g2, g3, f0, f1, f2, f3, fun _ => rfl, f5, f8, f9, d7', d10, hr, hb⟩
      · rw [(d7 h7).1] at hL; cases hL
    | 5, ho =>
      cases ho
      have hb0 := hb
      have hr0 := hr
      rcases hb0 with ⟨h7, gb⟩ | ⟨g, c, h7, n, hc, g22, gb⟩ <;> rcases hr0 with ⟨h6, gr⟩ | ⟨y, h6, gr, g21⟩
      · simp only [↓rA, rB, Nat.reduceAdd, tbLI0, g3, gb]
        exact ⟨g2, g3, f0, f1, f2, f3, f4, fun _ => rfl, f8, f9, d7, d10, hr, hb⟩
      · simp only [↓rA, rB, Nat.reduceAdd, tbLI0, g3, gb]
        exact ⟨g2, g3, f0, f1, f2, f3, f4, fun _ => rfl, f8, f9, d7, d10, hr, hb⟩
      · simp only [Nb] at n
        simp only [↓rA, rB, Nat.reduceAdd, tbLI0, g3, gb, n]
        exact ⟨g2, g3, f0, f1, f2, f3, f4, fun _ => rfl, f8, f9, d7, d10, hr, hb⟩
      · simp only [Nb] at n
        simp only [↓rA, rB, Nat.reduceAdd, tbLI0, g3, gb, n]
        exact ⟨g2, g3, f0, f1, f2, f3, f4, fun _ => rfl, f8, f9, d7, d10, hr, hb⟩
    | 6, ho =>
      cases ho
      have q5 := f5 (he ⟨5, .data⟩ (by simp) rfl)
      have hb0 := hb
      rcases hb0 with ⟨h7, gb⟩ | ⟨g, c, h7, n, hc, g22, gb⟩
      · have d7' : also L 6 7 = true → also L 6 4 = true ∧ also L 6 6 = true := fun h => by
          have : L 7 = true := h
          rw [h7] at this; cases this
        rcases hr with ⟨h6, gr⟩ | ⟨y, h6, gr, g21⟩
        · simp only [↓rA, rB, Nat.reduceAdd, Nat.reduceLT, Nat.reduceLeDiff, Nat.reduceMul, tbLI0, q5]
          exact fun y => ⟨g2, g3, f0, f1, f2, f3, f4, f5, f8, f9, d7', d10, .inr ⟨y, rfl, (by show _ :: S.rows = _; rw [gr]), rfl⟩, hb⟩
        · rw [hL] at h6; cases h6
      · rw [(d7 h7).2] at hL; cases hL
    | 7, ho =>
      cases ho
      have h4 := he ⟨4, .data⟩ (by simp) rfl
      have h6' := he ⟨6, .data⟩ (by simp) rfl
      replace h4 : L 4 = true := h4
      replace h6' : L 6 = true := h6'
      have q4 := f4 h4
      have d7' : also L 7 7 = true → also L 7 4 = true ∧ also L 7 6 = true := fun _ => ⟨h4, h6'⟩
      rcases hb with ⟨h7, gb⟩ | ⟨g, c, h7, n, hc, g22, gb⟩
      · have h10 : L 10 = false := by
          cases h : L 10
          · rfl
          · rw [h7] at d10; cases d10 h
        rcases hr with ⟨h6, gr⟩ | ⟨y, h6, gr, g21⟩
        · rw [h6'] at h6; cases h6
        · simp only [↓rA, rB, q4, g21]
          refine Or2.r ?_
          simp only [↓rA, rB, Nat.reduceAdd, Nat.reduceLT, Nat.reduceLeDiff, Nat.reduceMul, tbLI0, gb, gr]
          refine fun g c hg hc => ?_
          have n := newb hg
          simp only [↓rA, rB]
          exact ⟨g2, g3, f0, f1, f2, f3, f4, f5, f8, f9, d7', fun _ => rfl, .inr ⟨y, h6, gr, g21⟩, .inr ⟨g, c, rfl, n, hc, rfl, by show (_, B.c _) :: S.boxes = (_, B.c _) :: base b2 b3 s x (bif L 10 then _ else _); rw [gb, h10]; rfl⟩⟩
      · rw [hL] at h7; cases h7
    | 8, ho =>
      cases ho
      have q0 := f0 (he ⟨0, .data⟩ (by simp) rfl)
      have hb0 := hb
      have hr0 := hr
      rcases hb0 with ⟨h7, gb⟩ | ⟨g, c, h7, n, hc, g22, gb⟩ <;> rcases hr0 with ⟨h6, gr⟩ | ⟨y, h6, gr, g21⟩
      · simp only [↓rA, rB, q0]
        exact ⟨g2, g3, f0, f1, f2, f3, f4, f5, fun _ => rfl, f9, d7, d10, hr, hb⟩
      · simp only [↓rA, rB, q0]
        exact ⟨g2, g3, f0, f1, f2, f3, f4, f5, fun _ => rfl, f9, d7, d10, hr, hb⟩
      · simp only [Nb] at n
        simp only [↓rA, rB, q0]
        exact ⟨g2, g3, f0, f1, f2, f3, f4, f5, fun _ => rfl, f9, d7, d10, hr, hb⟩
      · simp only [Nb] at n
        simp only [↓rA, rB, q0]
        exact ⟨g2, g3, f0, f1, f2, f3, f4, f5, fun _ => rfl, f9, d7, d10, hr, hb⟩
    | 9, ho =>
      cases ho
      have q8 := f8 (he ⟨8, .data⟩ (by simp) rfl)
      have hb0 := hb
      have hr0 := hr
      rcases hb0 with ⟨h7, gb⟩ | ⟨g, c, h7, n, hc, g22, gb⟩ <;> rcases hr0 with ⟨h6, gr⟩ | ⟨y, h6, gr, g21⟩
      · simp only [↓rA, rB, tbLI0, q8]
        exact ⟨g2, g3, f0, f1, f2, f3, f4, f5, f8, fun _ => rfl, d7, d10, hr, hb⟩
      · simp only [↓rA, rB, tbLI0, q8]
        exact ⟨g2, g3, f0, f1, f2, f3, f4, f5, f8, fun _ => rfl, d7, d10, hr, hb⟩
      · simp only [Nb] at n
        simp only [↓rA, rB, tbLI0, q8]
        exact ⟨g2, g3, f0, f1, f2, f3, f4, f5, f8, fun _ => rfl, d7, d10, hr, hb⟩
      · simp only [Nb] at n
        simp only [↓rA, rB, tbLI0, q8]
        exact ⟨g2, g3, f0, f1, f2, f3, f4, f5, f8, fun _ => rfl, d7, d10, hr, hb⟩
    | 10, ho =>
      cases ho
      have h7' := he ⟨7, .data⟩ (by simp) rfl
      have q9 := f9 (he ⟨9, .data⟩ (by simp) rfl)
      replace h7' : L 7 = true := h7'
      have d10' : also L 10 10 = true → also L 10 7 = true := fun _ => h7'
      have hr0 := hr
      rcases hb with ⟨h7, gb⟩ | ⟨g, c, h7, n, hc, g22, gb⟩
      · rw [h7'] at h7; cases h7
      · have n0 := n
        simp only [Nb] at n
        rcases hr0 with ⟨h6, gr⟩ | ⟨y, h6, gr, g21⟩
        · simp only [↓rA, rB, Nat.reduceAdd, Nat.reduceLeDiff, tbLI0, gb, hs, n, q9, g22]
          exact ⟨g2, g3, f0, f1, f2, f3, f4, f5, f8, f9, d7, d10', hr, .inr ⟨g, c, h7, n0, hc, g22, rfl⟩⟩
        · simp only [↓rA, rB, Nat.reduceAdd, Nat.reduceLeDiff, tbLI0, gb, hs, n, q9, g22]
          exact ⟨g2, g3, f0, f1, f2, f3, f4, f5, f8, f9, d7, d10', hr, .inr ⟨g, c, h7, n0, hc, g22, rfl⟩⟩
    | n + 11, ho => cases ho
  · intro L S hL ⟨g2, g3, f0, f1, f2, f3, f4, f5, f8, f9, d7, d10, hr, hb⟩
    replace hL : ∀ i, i < 11 → L i = true := hL
    have l7 := hL 7 (by decide)
    have l10 := hL 10 (by decide)
    rcases hb with ⟨h7, gb⟩ | ⟨g, c, h7, n, hc, g22, gb⟩
    · rw [l7] at h7; cases h7
    rw [l10] at gb
    simp only [cond_true] at gb
    simp only [Nb] at n
    simp only [↓rA, rB, tbLI0, g2, gb, hs, n]
    have hw := wrap_id (n := ((1 : Nat) : Int) - 1) (by decide) (by decide)
    exact ⟨_, [_, _], [], Le.refl _, List.Sublist.cons_cons _ (List.Sublist.cons _ (List.Sublist.cons _ (List.Sublist.refl _))), List.nil_sublist _, congrArg (fun n => V.lit (.int .i64 n)) hw, .inr ⟨g, c, anys ((c - 1) * 23), by simp, ⟨n.2.2.1.1, n.2.2.1.2⟩, hc, by simp [anys], by simp [bN, cNd_eq]⟩, rfl⟩

set_option linter.defProp false in
def tbLI1 := (aI (aI (aI (aI (aI (aI (aI Ty.sz3 Ty.by3) (aI Ty.ag3 Ty.zr3)) (aI (aI Ty.un3 Ty.sz4) (aI Ty.by4 Ty.ag4))) (aI (aI (aI Ty.zr4 Ty.un4) (aI Ty.sz9 Ty.by9)) (aI (aI Ty.ag9 Ty.zr9) (aI Ty.un9 Ty.sz22)))) (aI (aI (aI (aI Ty.by22 Ty.ag22) (aI Ty.zr22 Ty.un22)) (aI (aI Ty.sz28 Ty.by28) (aI Ty.ag28 Ty.zr28))) (aI (aI (aI Ty.fl28_0 Ty.pl28_0) (aI Ty.fl28_1 Ty.pl28_1)) (aI (aI Ty.fl28_2 Ty.pl28_2) (aI Ty.sz29 Ty.by29))))) (aI (aI (aI (aI (aI Ty.ag29 Ty.zr29) (aI Ty.un29 Ty.sz31)) (aI (aI Ty.by31 Ty.ag31) (aI Ty.zr31 Ty.fl31_0))) (aI (aI (aI Ty.pl31_0 Ty.fl31_1) (aI Ty.pl31_1 Ty.sz32)) (aI (aI Ty.by32 Ty.ag32) (aI Ty.zr32 Ty.un32)))) (aI (aI (aI (aI Ty.sz34 Ty.by34) (aI Ty.ag34 Ty.zr34)) (aI (aI Ty.fl34_0 Ty.pl34_0) (aI Ty.fl34_1 Ty.pl34_1))) (aI (aI (aI Ty.fl34_2 Ty.pl34_2) (aI Ty.fl34_3 Ty.pl34_3)) (aI (aI Ty.fl34_4 Ty.pl34_4) (aI Ty.fl34_5 (aI Ty.pl34_5 Ty.fl34_6))))))) (aI (aI (aI (aI (aI (aI Ty.pl34_6 Ty.fl34_7) (aI Ty.pl34_7 Ty.fl34_8)) (aI (aI Ty.pl34_8 Ty.sz45) (aI Ty.by45 Ty.ag45))) (aI (aI (aI Ty.zr45 Ty.un45) (aI Ty.sz47 Ty.by47)) (aI (aI Ty.ag47 Ty.zr47) (aI Ty.fl47_0 Ty.pl47_0)))) (aI (aI (aI (aI Ty.fl47_1 Ty.pl47_1) (aI Ty.fl47_2 Ty.pl47_2)) (aI (aI Ty.fl47_3 Ty.pl47_3) (aI Ty.fl47_4 Ty.pl47_4))) (aI (aI (aI Ty.fl47_5 Ty.pl47_5) (aI Ty.fl47_6 Ty.pl47_6)) (aI (aI Ty.fl47_7 Ty.pl47_7) (aI Ty.fl47_8 (aI Ty.pl47_8 Ty.sz67)))))) (aI (aI (aI (aI (aI Ty.by67 Ty.ag67) (aI Ty.zr67 Ty.sz72)) (aI (aI Ty.by72 Ty.ag72) (aI Ty.zr72 Ty.un72))) (aI (aI (aI Ty.sz74 Ty.by74) (aI Ty.ag74 Ty.zr74)) (aI (aI Ty.fl74_0 Ty.pl74_0) (aI Ty.fl74_1 Ty.pl74_1)))) (aI (aI (aI (aI Ty.sz93 Ty.by93) (aI Ty.ag93 Ty.zr93)) (aI (aI Ty.sz103 Ty.by103) (aI Ty.ag103 Ty.zr103))) (aI (aI (aI Ty.fl103_0 Ty.pl103_0) (aI Ty.fl103_1 Ty.pl103_1)) (aI (aI Ty.eq28 Ty.eq31) (aI Ty.eq103 (aI Ty.cb47 Ty.cb48))))))))
set_option maxHeartbeats 4000000 in
theorem put_new (x : Nd) (s : Nat) (hf : FitN x) (L0 : List Nd) (hL0 : L0.length ≤ 1000000) (hne : x ∉ L0) (g0 c0 : Nat) (rest : List V) (hsg : s ≠ g0 ∧ g0 ≠ s) (hc0 : L0.length ≤ c0) (hre : rest.length = (c0 - L0.length) * 23) :
    Ok Tryz.prog 29 [ptr s, .agg (cNd x)] [(g0, bN L0 rest), (s, .c [slN g0 L0.length c0, fnN])] fun v bs rs => v = vint L0.length ∧ Sh s (L0 ++ [x]) bs ∧ rs = [] := by
  have hq := fun b2 b3 h1 h2 h3 h4 h5 => indexNd_ok x hf L0 (by unfold big; omega) s b2 b3 g0 c0 rest h1 h2 h3 h4 h5 hsg
  rw [idxI, if_neg hne] at hq
  simp only [cNd_eq] at hq ⊢
  have hlen : ((L0.map cNd).flatten ++ rest).length = c0 * 23 := by rw [List.length_append, nds_len, hre, Nat.sub_mul]; have := Nat.mul_le_mul_right 23 hc0; omega
  have hby : (L0.length + 1) * 296 ≤ 140737488355328 := by omega
  refine Ok.of_exM [(4, 3)] Ty.mixed Tryz.func29 rfl (by simp [Tryz.ntmps29]) (by kernel_rfl) fun F w0 I0 => ?_
  simp only [↓rA, rB]
  refine fun b2 h2 => ?_; replace h2 := newb h2; try simp only [Nb] at h2
  simp only [↓rA, rB, Nat.reduceEqDiff]
  refine fun b3 h3 => ?_; replace h3 := newb h3; try simp only [Nb] at h3
  simp only [↓rA, rB, Nat.reduceAdd, Nat.reduceEqDiff, tbLI1, h2, h3, hsg]
  refine OkF_with [_, _, _, _] [] (List.Perm.cons _ (List.Perm.cons _ (List.Perm.swap _ _ _))) (hq b2 b3 h3.1.symm h3.2.2.1.symm h2.2.1.symm h3.2.1.symm h2.1.symm) ?_
  rintro v bs rs ⟨rfl, rfl, rfl⟩
  simp only [↓rA, rB, Int.reduceLE, Tryz.results29]
  have hs := And.intro (And.intro h2 h3) hsg
  refine EX_invA Ty.mixed (by kernel_rfl) (by kernel_rfl) (InP b2 b3 s x (slN g0 L0.length c0) [(g0, bN L0 rest)] L0.length (L0.map cNd).flatten) ?_ ?_ ?_
  · exact ⟨rfl, rfl, (fun h => by cases h), (fun h => by cases h), (fun h => by cases h), (fun h => by cases h), (fun h => by cases h), (fun h => by cases h), (fun h => by cases h), (fun h => by cases h), (fun h => by cases h), (fun h => by cases h), .inl ⟨rfl, rfl⟩, .inl ⟨rfl, rfl⟩⟩
  · intro L S i o ho hL he ⟨g2, g3, f0, f1, f2, f3, f4, f5, f8, f9, d7, d10, hr, hb⟩
    match i, ho with
    | 0, ho =>
      cases ho
      have hb0 := hb
      have hr0 := hr
      rcases hb0 with ⟨h7, gb⟩ | ⟨g, c, h7, n, hc, g22, gb⟩ <;> rcases hr0 with ⟨h6, gr⟩ | ⟨y, h6, gr, g21⟩
      · simp only [↓rA, rB, tbLI1, g2, gb, hs]
        exact ⟨g2, g3, fun _ => rfl, f1, f2, f3, f4, f5, f8, f9, d7, d10, hr, hb⟩
      · simp only [↓rA, rB, tbLI1, g2, gb, hs]
        exact ⟨g2, g3, fun _ => rfl, f1, f2, f3, f4, f5, f8, f9, d7, d10, hr, hb⟩
      · simp only [Nb] at n
        simp only [↓rA, rB, tbLI1, g2, gb, hs, n]
        exact ⟨g2, g3, fun _ => rfl, f1, f2, f3, f4, f5, f8, f9, d7, d10, hr, hb⟩
      · simp only [Nb] at n
        simp only [↓rA, rB, tbLI1, g2, gb, hs, n]
        exact ⟨g2, g3, fun _ => rfl, f1, f2, f3, f4, f5, f8, f9, d7, d10, hr, hb⟩
    | 1, ho =>
      cases ho
      have hb0 := hb
      have hr0 := hr
      rcases hb0 with ⟨h7, gb⟩ | ⟨g, c, h7, n, hc, g22, gb⟩ <;> rcases hr0 with ⟨h6, gr⟩ | ⟨y, h6, gr, g21⟩
      · simp only [↓rA, rB, tbLI1, g2, gb, hs]
        exact ⟨g2, g3, f0, fun _ => rfl, f2, f3, f4, f5, f8, f9, d7, d10, hr, hb⟩
      · simp only [↓rA, rB, tbLI1, g2, gb, hs]
        exact ⟨g2, g3, f0, fun _ => rfl, f2, f3, f4, f5, f8, f9, d7, d10, hr, hb⟩
      · simp only [Nb] at n
        simp only [↓rA, rB, tbLI1, g2, gb, hs, n]
        exact ⟨g2, g3, f0, fun _ => rfl, f2, f3, f4, f5, f8, f9, d7, d10, hr, hb⟩
      · simp only [Nb] at n
        simp only [↓rA, rB, tbLI1, g2, gb, hs, n]
        exact ⟨g2, g3, f0, fun _ => rfl, f2, f3, f4, f5, f8, f9, d7, d10, hr, hb⟩
    | 2, ho =>
      cases ho
      have q1 := f1 (he ⟨1, .data⟩ (by simp) rfl)
      have hb0 := hb
      have hr0 := hr
      rcases hb0 with ⟨h7, gb⟩ | ⟨g, c, h7, n, hc, g22, gb⟩ <;> rcases hr0 with ⟨h6, gr⟩ | ⟨y, h6, gr, g21⟩
      · simp only [↓rA, rB, q1]
        exact ⟨g2, g3, f0, f1, fun _ => rfl, f3, f4, f5, f8, f9, d7, d10, hr, hb⟩
      · simp only [↓rA, rB, q1]
        exact ⟨g2, g3, f0, f1, fun _ => rfl, f3, f4, f5, f8, f9, d7, d10, hr, hb⟩
      · simp only [Nb] at n
        simp only [↓rA, rB, q1]
        exact ⟨g2, g3, f0, f1, fun _ => rfl, f3, f4, f5, f8, f9, d7, d10, hr, hb⟩
      · simp only [Nb] at n
        simp only [↓rA, rB, q1]
        exact ⟨g2, g3, f0, f1, fun _ => rfl, f3, f4, f5, f8, f9, d7, d10, hr, hb⟩
    | 3, ho =>
      cases ho
      have q2 := f2 (he ⟨2, .data⟩ (by simp) rfl)
      have hb0 := hb
      have hr0 := hr
      rcases hb0 with ⟨h7, gb⟩ | ⟨g, c, h7, n, hc, g22, gb⟩ <;> rcases hr0 with ⟨h6, gr⟩ | ⟨y, h6, gr, g21⟩
      · simp only [↓rA, rB, tbLI1, q2]
        exact ⟨g2, g3, f0, f1, f2, fun _ => rfl, f4, f5, f8, f9, d7, d10, hr, hb⟩
      · simp only [↓rA, rB, tbLI1, q2]
        exact ⟨g2, g3, f0, f1, f2, fun _ => rfl, f4, f5, f8, f9, d7, d10, hr, hb⟩
      · simp only [Nb] at n
        simp only [↓rA, rB, tbLI1, q2]
        exact ⟨g2, g3, f0, f1, f2, fun _ => rfl, f4, f5, f8, f9, d7, d10, hr, hb⟩
      · simp only [Nb] at n
        simp only [↓rA, rB, tbLI1, q2]
        exact ⟨g2, g3, f0, f1, f2, fun _ => rfl, f4, f5, f8, f9, d7, d10, hr, hb⟩
    | 4, ho =>
      cases ho
      have q3 := f3 (he ⟨3, .data⟩ (by simp) rfl)
      have hb0 := hb
      have hr0 := hr
      rcases hb0 with ⟨h7, gb⟩ | ⟨g, c, h7, n, hc, g22, gb⟩
      · have d7' : also L 4 7 = true → also L 4 4 = true ∧ also L 4 6 = true := fun h => by
          have : L 7 = true := h
          rw [h7] at this; cases this
        rcases hr0 with ⟨h6, gr⟩ | ⟨y, h6, gr, g21⟩
        · simp only [↓rA, rB, tbLI1, gb, hs, q3]
          exact ⟨g2, g3, f0, f1, f2, f3, fun _ => rfl, f5, f8, f9, d7', d10, hr, hb⟩
        · simp only [↓rA, rB, tbLI1, gb, hs, q3]
          exact ⟨g2, g3, f0, f1, f2, f3, fun _ => rfl, f5, f8, f9, d7', d10, hr, hb⟩
      · rw [(d7 h7).1] at hL; cases hL
    | 5, ho =>
      cases ho
      have hb0 := hb
      have hr0 := hr
      rcases hb0 with ⟨h7, gb⟩ | ⟨g, c, h7, n, hc, g22, gb⟩ <;> rcases hr0 with ⟨h6, gr⟩ | ⟨y, h6, gr, g21⟩
      · simp only [↓rA, rB, Nat.reduceAdd, tbLI1, g3, gb]
        exact ⟨g2, g3, f0, f1, f2, f3, f4, fun _ => rfl, f8, f9, d7, d10, hr, hb⟩
      · simp only [↓rA, rB, Nat.reduceAdd, tbLI1, g3, gb]
        exact ⟨g2, g3, f0, f1, f2, f3, f4, fun _ => rfl, f8, f9, d7, d10, hr, hb⟩
      · simp only [Nb] at n
        simp only [↓rA, rB, Nat.reduceAdd, tbLI1, g3, gb, n]
        exact ⟨g2, g3, f0, f1, f2, f3, f4, fun _ => rfl, f8, f9, d7, d10, hr, hb⟩
      · simp only [Nb] at n
        simp only [↓rA, rB, Nat.reduceAdd, tbLI1, g3, gb, n]
        exact ⟨g2, g3, f0, f1, f2, f3, f4, fun _ => rfl, f8, f9, d7, d10, hr, hb⟩
    | 6, ho =>
      cases ho
      have q5 := f5 (he ⟨5, .data⟩ (by simp) rfl)
      have hb0 := hb
      rcases hb0 with ⟨h7, gb⟩ | ⟨g, c, h7, n, hc, g22, gb⟩
      · have d7' : also L 6 7 = true → also L 6 4 = true ∧ also L 6 6 = true := fun h => by
          have : L 7 = true := h
          rw [h7] at this; cases this
        rcases hr with ⟨h6, gr⟩ | ⟨y, h6, gr, g21⟩
        · simp only [↓rA, rB, Nat.reduceAdd, Nat.reduceLT, Nat.reduceLeDiff, Nat.reduceMul, tbLI1, q5]
          exact fun y => ⟨g2, g3, f0, f1, f2, f3, f4, f5, f8, f9, d7', d10, .inr ⟨y, rfl, (by show _ :: S.rows = _; rw [gr]), rfl⟩, hb⟩
        · rw [hL] at h6; cases h6
      · rw [(d7 h7).2] at hL; cases hL
    | 7, ho =>
      cases ho
      have h4 := he ⟨4, .data⟩ (by simp) rfl
      have h6' := he ⟨6, .data⟩ (by simp) rfl
      replace h4 : L 4 = true := h4
      replace h6' : L 6 = true := h6'
      have q4 := f4 h4
      have d7' : also L 7 7 = true → also L 7 4 = true ∧ also L 7 6 = true := fun _ => ⟨h4, h6'⟩
      rcases hb with ⟨h7, gb⟩ | ⟨g, c, h7, n, hc, g22, gb⟩
      · have h10 : L 10 = false := by
          cases h : L 10
          · rfl
          · rw [h7] at d10; cases d10 h
        rcases hr with ⟨h6, gr⟩ | ⟨y, h6, gr, g21⟩
        · rw [h6'] at h6; cases h6
        · simp only [↓rA, rB, q4, g21]
          have hrem : remB (base b2 b3 s x (slN g0 L0.length c0) ++ [(g0, bN L0 rest)]) g0 = base b2 b3 s x (slN g0 L0.length c0) := by
            simp [remB, h2.1.2, h3.2.1.2, hsg.1]
          refine Or2.r ?_
          simp only [↓rA, rB, Nat.reduceAdd, Nat.reduceLT, tbLI1, gb, gr, hs]
          refine ⟨⟨hlen, hc0, hby⟩, fun g c hg hc => ?_⟩
          replace hg : ¬ g ∈ blks (remB (base b2 b3 s x (slN g0 L0.length c0) ++ [(g0, bN L0 rest)]) g0) _ := hg
          rw [hrem] at hg
          have n := newb hg
          simp only [↓rA, rB, gb]
          exact ⟨g2, g3, f0, f1, f2, f3, f4, f5, f8, f9, d7', fun _ => rfl, .inr ⟨y, h6, gr, g21⟩, .inr ⟨g, c, rfl, n, hc, rfl, by
            show (_, B.c (List.take _ _ ++ _ ++ _)) :: remB (base b2 b3 s x (slN g0 L0.length c0) ++ [(g0, bN L0 rest)]) g0 = (_, B.c _) :: base b2 b3 s x (bif L 10 then _ else _)
            rw [h10, hrem, List.take_left' (nds_len L0)]
            simp⟩⟩
      · rw [hL] at h7; cases h7
    | 8, ho =>
      cases ho
      have q0 := f0 (he ⟨0, .data⟩ (by simp) rfl)
      have hb0 := hb
      have hr0 := hr
      rcases hb0 with ⟨h7, gb⟩ | ⟨g, c, h7, n, hc, g22, gb⟩ <;> rcases hr0 with ⟨h6, gr⟩ | ⟨y, h6, gr, g21⟩
      · simp only [↓rA, rB, q0]
        exact ⟨g2, g3, f0, f1, f2, f3, f4, f5, fun _ => rfl, f9, d7, d10, hr, hb⟩
      · simp only [↓rA, rB, q0]
        exact ⟨g2, g3, f0, f1, f2, f3, f4, f5, fun _ => rfl, f9, d7, d10, hr, hb⟩
      · simp only [Nb] at n
        simp only [↓rA, rB, q0]
        exact ⟨g2, g3, f0, f1, f2, f3, f4, f5, fun _ => rfl, f9, d7, d10, hr, hb⟩
      · simp only [Nb] at n
        simp only [↓rA, rB, q0]
        exact ⟨g2, g3, f0, f1, f2, f3, f4, f5, fun _ => rfl, f9, d7, d10, hr, hb⟩
    | 9, ho =>
      cases ho
      have q8 := f8 (he ⟨8, .data⟩ (by simp) rfl)
      have hb0 := hb
      have hr0 := hr
      rcases hb0 with ⟨h7, gb⟩ | ⟨g, c, h7, n, hc, g22, gb⟩ <;> rcases hr0 with ⟨h6, gr⟩ | ⟨y, h6, gr, g21⟩
      · simp only [↓rA, rB, tbLI1, q8]
        exact ⟨g2, g3, f0, f1, f2, f3, f4, f5, f8, fun _ => rfl, d7, d10, hr, hb⟩
      · simp only [↓rA, rB, tbLI1, q8]
        exact ⟨g2, g3, f0, f1, f2, f3, f4, f5, f8, fun _ => rfl, d7, d10, hr, hb⟩
      · simp only [Nb] at n
        simp only [↓rA, rB, tbLI1, q8]
        exact ⟨g2, g3, f0, f1, f2, f3, f4, f5, f8, fun _ => rfl, d7, d10, hr, hb⟩
      · simp only [Nb] at n
        simp only [↓rA, rB, tbLI1, q8]
        exact ⟨g2, g3, f0, f1, f2, f3, f4, f5, f8, fun _ => rfl, d7, d10, hr, hb⟩
    | 10, ho =>
      cases ho
      have h7' := he ⟨7, .data⟩ (by simp) rfl
      have q9 := f9 (he ⟨9, .data⟩ (by simp) rfl)
      replace h7' : L 7 = true := h7'
      have d10' : also L 10 10 = true → also L 10 7 = true := fun _ => h7'
      have hr0 := hr
      rcases hb with ⟨h7, gb⟩ | ⟨g, c, h7, n, hc, g22, gb⟩
      · rw [h7'] at h7; cases h7
      · have n0 := n
        simp only [Nb] at n
        rcases hr0 with ⟨h6, gr⟩ | ⟨y, h6, gr, g21⟩
        · simp only [↓rA, rB, Nat.reduceAdd, Nat.reduceLeDiff, tbLI1, gb, hs, n, q9, g22]
          exact ⟨g2, g3, f0, f1, f2, f3, f4, f5, f8, f9, d7, d10', hr, .inr ⟨g, c, h7, n0, hc, g22, rfl⟩⟩
        · simp only [↓rA, rB, Nat.reduceAdd, Nat.reduceLeDiff, tbLI1, gb, hs, n, q9, g22]
          exact ⟨g2, g3, f0, f1, f2, f3, f4, f5, f8, f9, d7, d10', hr, .inr ⟨g, c, h7, n0, hc, g22, rfl⟩⟩
    | n + 11, ho => cases ho
  · intro L S hL ⟨g2, g3, f0, f1, f2, f3, f4, f5, f8, f9, d7, d10, hr, hb⟩
    replace hL : ∀ i, i < 11 → L i = true := hL
    have l7 := hL 7 (by decide)
    have l10 := hL 10 (by decide)
    rcases hb with ⟨h7, gb⟩ | ⟨g, c, h7, n, hc, g22, gb⟩
    · rw [l7] at h7; cases h7
    rw [l10] at gb
    simp only [cond_true] at gb
    simp only [Nb] at n
    simp only [↓rA, rB, tbLI1, g2, gb, hs, n]
    have hw : IntKind.i64.wrap (((L0.length + 1 : Nat) : Int) - 1) = L0.length := by rw [wrap_id (by omega) (by omega)]; omega
    exact ⟨_, [_, _], [], Le.refl _, List.Sublist.cons_cons _ (List.Sublist.cons _ (List.Sublist.cons _ (List.Sublist.refl _))), List.nil_sublist _, congrArg (fun n => V.lit (.int .i64 n)) hw, .inr ⟨g, c, anys ((c - (L0.length + 1)) * 23), by simp, ⟨n.2.2.1.1, n.2.2.1.2⟩, by simpa using hc, by simp [anys], by simp [bN, cNd_eq]⟩, rfl⟩

end Go.Proofs.YtphkmlogjgeipaaGreatDoor
/- Lowering: the model, how much it makes. -/
namespace Go.Lo
open Go.VL Go.Ar
theorem putM_len (l : List Nd) (n : Nd) : (putM l n).1.length ≤ l.length + 1 := by
  unfold putM; split <;> simp
theorem lowEs_append : ∀ (a b : List E) (L : List Nd), lowEs L (a ++ b) = ((lowEs (lowEs L a).1 b).1, (lowEs L a).2 ++ (lowEs (lowEs L a).1 b).2)
  | [], b, L => by simp [lowEs]
  | x :: r, b, L => by
    simp only [List.cons_append, lowEs]
    rw [lowEs_append r b]
theorem lowE_mk (L : List Nd) (h : Hd) (al : List E) : lowE L (.mk h al) = if h.kind = 5 then aggM L h al else putM (lowEs L al).1 { ownM h al with inn := (lowEs L al).2 } := by
  rw [lowE]
theorem lowE_agg (L : List Nd) (h : Hd) (a c : E) (r : List E) (e : h.kind = 5) : lowE L (.mk h (a :: c :: r)) = overM L h a c := by rw [lowE_mk, if_pos e]; rfl
theorem lowE_op (L : List Nd) (h : Hd) (al : List E) (e : ¬ h.kind = 5) : lowE L (.mk h al) = putM (lowEs L al).1 { ownM h al with inn := (lowEs L al).2 } := by rw [lowE_mk, if_neg e]
theorem overM_len (L : List Nd) (h : Hd) (a c : E) : (overM L h a c).1.length ≤ L.length + 4 := by
  simp only [overM]
  exact Nat.le_trans (putM_len _ _) (Nat.succ_le_succ (Nat.le_trans (putM_len _ _) (Nat.succ_le_succ (Nat.le_trans (putM_len _ _) (Nat.succ_le_succ (putM_len _ _))))))
theorem lowEs_len_of : ∀ (l : List E), (∀ x ∈ l, ∀ L, (lowE L x).1.length ≤ L.length + 4 * sizeE x) → ∀ L, (lowEs L l).1.length ≤ L.length + 4 * sizeEs l
  | [], _, L => by simp [lowEs, sizeEs]
  | x :: r, h, L => by
    simp only [lowEs, sizeEs]
    have h1 := h x List.mem_cons_self L
    have h2 := lowEs_len_of r (fun y hy => h y (List.mem_cons_of_mem _ hy)) (lowE L x).1
    omega
theorem lowE_len : ∀ (x : E) (L : List Nd), (lowE L x).1.length ≤ L.length + 4 * sizeE x := by
  intro x
  induction x using E.ind with
  | h hd l ih =>
  intro L
  rw [lowE_mk, sizeE_mk]
  split
  · unfold aggM
    split
    · have := overM_len L hd (by assumption) (by assumption)
      refine Nat.le_trans (overM_len L hd _ _) ?_
      omega
    · simp only; omega
  · have h1 := lowEs_len_of l ih L
    have h2 := putM_len (lowEs L l).1 { ownM hd l with inn := (lowEs L l).2 }
    omega
theorem lowEs_len (l : List E) (L : List Nd) : (lowEs L l).1.length ≤ L.length + 4 * sizeEs l := lowEs_len_of l (fun x _ => lowE_len x) L
theorem lowEs_ks : ∀ (l : List E) (L : List Nd), (lowEs L l).2.length = l.length
  | [], L => rfl
  | x :: r, L => by simp only [lowEs, List.length_cons, lowEs_ks r]
end Go.Lo

/- Contracts of lowering, part i: put; the walk over an expression. -/
set_option linter.unusedSimpArgs false
set_option maxRecDepth 100000
-- @call 28
namespace Go.Proofs.YtphkmlogjgeipaaGreatDoor
open Go.VL Go.Ar Go.Lo Go.Proofs.YtphkmlogjgeipaaGreatDoor

set_option linter.defProp false in
def tbLJ0 := (aI (aI (aI (aI (aI (aI (aI Ty.sz3 Ty.by3) (aI Ty.ag3 Ty.zr3)) (aI (aI Ty.un3 Ty.sz4) (aI Ty.by4 Ty.ag4))) (aI (aI (aI Ty.zr4 Ty.un4) (aI Ty.sz9 Ty.by9)) (aI (aI Ty.ag9 Ty.zr9) (aI Ty.un9 Ty.sz22)))) (aI (aI (aI (aI Ty.by22 Ty.ag22) (aI Ty.zr22 Ty.un22)) (aI (aI Ty.sz28 Ty.by28) (aI Ty.ag28 Ty.zr28))) (aI (aI (aI Ty.fl28_0 Ty.pl28_0) (aI Ty.fl28_1 Ty.pl28_1)) (aI (aI Ty.fl28_2 Ty.pl28_2) (aI Ty.sz29 (aI Ty.by29 Ty.ag29)))))) (aI (aI (aI (aI (aI Ty.zr29 Ty.un29) (aI Ty.sz31 Ty.by31)) (aI (aI Ty.ag31 Ty.zr31) (aI Ty.fl31_0 Ty.pl31_0))) (aI (aI (aI Ty.fl31_1 Ty.pl31_1) (aI Ty.sz32 Ty.by32)) (aI (aI Ty.ag32 Ty.zr32) (aI Ty.un32 Ty.sz34)))) (aI (aI (aI (aI Ty.by34 Ty.ag34) (aI Ty.zr34 Ty.fl34_0)) (aI (aI Ty.pl34_0 Ty.fl34_1) (aI Ty.pl34_1 Ty.fl34_2))) (aI (aI (aI Ty.pl34_2 Ty.fl34_3) (aI Ty.pl34_3 Ty.fl34_4)) (aI (aI Ty.pl34_4 Ty.fl34_5) (aI Ty.pl34_5 (aI Ty.fl34_6 Ty.pl34_6))))))) (aI (aI (aI (aI (aI (aI Ty.fl34_7 Ty.pl34_7) (aI Ty.fl34_8 Ty.pl34_8)) (aI (aI Ty.sz45 Ty.by45) (aI Ty.ag45 Ty.zr45))) (aI (aI (aI Ty.un45 Ty.sz47) (aI Ty.by47 Ty.ag47)) (aI (aI Ty.zr47 Ty.fl47_0) (aI Ty.pl47_0 Ty.fl47_1)))) (aI (aI (aI (aI Ty.pl47_1 Ty.fl47_2) (aI Ty.pl47_2 Ty.fl47_3)) (aI (aI Ty.pl47_3 Ty.fl47_4) (aI Ty.pl47_4 Ty.fl47_5))) (aI (aI (aI Ty.pl47_5 Ty.fl47_6) (aI Ty.pl47_6 Ty.fl47_7)) (aI (aI Ty.pl47_7 Ty.fl47_8) (aI Ty.pl47_8 (aI Ty.sz67 Ty.by67)))))) (aI (aI (aI (aI (aI Ty.ag67 Ty.zr67) (aI Ty.sz72 Ty.by72)) (aI (aI Ty.ag72 Ty.zr72) (aI Ty.un72 Ty.sz74))) (aI (aI (aI Ty.by74 Ty.ag74) (aI Ty.zr74 Ty.fl74_0)) (aI (aI Ty.pl74_0 Ty.fl74_1) (aI Ty.pl74_1 Ty.sz93)))) (aI (aI (aI (aI Ty.by93 Ty.ag93) (aI Ty.zr93 Ty.sz103)) (aI (aI Ty.by103 Ty.ag103) (aI Ty.zr103 Ty.fl103_0))) (aI (aI (aI Ty.pl103_0 Ty.fl103_1) (aI Ty.pl103_1 Ty.eq28)) (aI (aI Ty.eq31 Ty.eq103) (aI Ty.cb28 (aI Ty.cb47 Ty.cb48))))))))
theorem put_old (x : Nd) (s : Nat) (hf : FitN x) (L0 : List Nd) (hL0 : L0.length ≤ 1000000) (hin : x ∈ L0) (g0 c0 : Nat) (rest : List V) (hsg : s ≠ g0 ∧ g0 ≠ s) :
    Ok Tryz.prog 29 [ptr s, .agg (cNd x)] [(g0, bN L0 rest), (s, .c [slN g0 L0.length c0, fnN])] fun v bs rs => v = vint (idxM L0 x) ∧ bs = [(s, .c [slN g0 L0.length c0, fnN]), (g0, bN L0 rest)] ∧ rs = [] := by
  have hq := fun b2 b3 h1 h2 h3 h4 h5 => indexNd_ok x hf L0 (by unfold big; omega) s b2 b3 g0 c0 rest h1 h2 h3 h4 h5 hsg
  rw [idxI, if_pos hin] at hq
  simp only [cNd_eq] at hq ⊢
  refine Ok.of_exM [(4, 3)] Ty.mixed Tryz.func29 rfl (by simp [Tryz.ntmps29]) (by kernel_rfl) fun F w0 I0 => ?_
  simp only [↓rA, rB]
  refine fun b2 h2 => ?_; replace h2 := newb h2; try simp only [Nb] at h2
  simp only [↓rA, rB, Nat.reduceEqDiff]
  refine fun b3 h3 => ?_; replace h3 := newb h3; try simp only [Nb] at h3
  simp only [↓rA, rB, Nat.reduceAdd, Nat.reduceEqDiff, tbLJ0, h2, h3, hsg]
  refine OkF_with [_, _, _, _] [] (List.Perm.cons _ (List.Perm.cons _ (List.Perm.swap _ _ _))) (hq b2 b3 h3.1.symm h3.2.2.1.symm h2.2.1.symm h3.2.1.symm h2.1.symm) ?_
  rintro v bs rs ⟨rfl, rfl, rfl⟩
  have h0 : (0 : Int) ≤ (idxM L0 x : Int) := by omega
  simp only [↓rA, rB, Nat.reduceEqDiff, Tryz.results29, h0]
  exact ⟨_, [_, _], [], Le.refl _, List.Sublist.cons _ (List.Sublist.cons _ (List.Sublist.refl _)), List.nil_sublist _, rfl, rfl, rfl⟩
theorem put_ok (x : Nd) (s : Nat) (hf : FitN x) (L : List Nd) (hL : L.length ≤ 1000000) (bs0 : List (Nat × B)) (hs : Sh s L bs0) :
    Ok Tryz.prog 29 [ptr s, .agg (cNd x)] bs0 fun v bs rs => v = vint (putM L x).2 ∧ Sh s (putM L x).1 bs ∧ rs = [] := by
  have hs0 := hs
  rcases hs with ⟨rfl, rfl⟩ | ⟨g, c, rest, hne, hsg, hc, hr, rfl⟩
  · exact (put_nil x s).mono fun v bs rs ⟨h1, h2, h3⟩ => ⟨h1, by simpa [putM] using h2, h3⟩
  · by_cases hx : x ∈ L
    · refine Ok.permR (put_old x s hf L hL hx g c rest hsg) ?_
      rintro v bs rs ⟨rfl, rfl, rfl⟩
      refine ⟨_, List.Perm.swap _ _ _, rfl, ?_, rfl⟩
      simpa [putM, hx] using hs0
    · refine (put_new x s hf L hL hx g c rest hsg hc hr).mono ?_
      rintro v bs rs ⟨rfl, h2, rfl⟩
      refine ⟨congrArg (fun n : Nat => V.lit (.int .i64 n)) ?_, by simpa [putM, hx] using h2, rfl⟩
      exact (idxM_not fun j hj e => hx (by rw [e]; exact List.getElem_mem hj)).symm
/-- Aggregates have their two operands. -/
inductive Agg2 : E → Prop
  | mk (h : Hd) (l : List E) (hk : h.kind = 5 → 2 ≤ l.length) (ha : ∀ x ∈ l, Agg2 x) : Agg2 (.mk h l)
abbrev fnW (b5 b6 : Nat) : V := .lit (.func (.func 28) #[] #[.pointer (some ⟨b5, 0, none⟩), .pointer (some ⟨b6, 0, none⟩)])
abbrev fr (b5 b6 s : Nat) : List (Nat × B) := [(b6, .c [fnW b5 b6]), (b5, .c [ptr s])]
/-- A node's cells, but for its lists. -/
abbrev cNu (n : Nd) (u a i : V) : List V := [vint n.kind, vstr n.table, vint n.expr.hd.kind, vstr n.expr.hd.op, vstr n.expr.hd.name, vstr n.expr.hd.table, vint n.expr.hd.val.kind, vint n.expr.hd.val.n, vstr n.expr.hd.val.s, u, vint n.expr.hd.param, vint n.expr.hd.wk, vint n.expr.hd.ws, a, vstr n.op, vint n.param, vint n.wk, vint n.ws, vint n.val.kind, vint n.val.n, vstr n.val.s, vstr n.name, i]
theorem leN (n : Nd) {u a i : V} (hu : Le u (vFacs n.expr.hd.unit)) (ha : Le a (vEs n.expr.args)) (hi : Le i (vints n.inn)) : Le (.agg (cNu n u a i)) (.agg (cNd n)) :=
  leAgg (.cons (Le.refl _) (.cons (Le.refl _) (.cons (Le.refl _) (.cons (Le.refl _) (.cons (Le.refl _) (.cons (Le.refl _) (.cons (Le.refl _) (.cons (Le.refl _) (.cons (Le.refl _) (.cons hu (.cons (Le.refl _) (.cons (Le.refl _) (.cons (Le.refl _) (.cons ha (.cons (Le.refl _) (.cons (Le.refl _) (.cons (Le.refl _) (.cons (Le.refl _) (.cons (Le.refl _) (.cons (Le.refl _) (.cons (Le.refl _) (.cons (Le.refl _) (.cons hi .nil)))))))))))))))))))))))
theorem leNi (n : Nd) (u a : V) : LeL (cNu n u a nilS) (cNu n u a (.list (some nilv) 1 [])) :=
  .cons (Le.refl _) (.cons (Le.refl _) (.cons (Le.refl _) (.cons (Le.refl _) (.cons (Le.refl _) (.cons (Le.refl _) (.cons (Le.refl _) (.cons (Le.refl _) (.cons (Le.refl _) (.cons (Le.refl _) (.cons (Le.refl _) (.cons (Le.refl _) (.cons (Le.refl _) (.cons (Le.refl _) (.cons (Le.refl _) (.cons (Le.refl _) (.cons (Le.refl _) (.cons (Le.refl _) (.cons (Le.refl _) (.cons (Le.refl _) (.cons (Le.refl _) (.cons (Le.refl _) (.cons (Le.nilOwn 1) .nil))))))))))))))))))))))
theorem fit0 : Fit exp0 := .mk _ _ (by simp [big]) (by simp [big]) (fun x hx => by cases hx)
theorem putF (n : Nd) (s : Nat) (u a i : V) (hu : Le u (vFacs n.expr.hd.unit)) (ha : Le a (vEs n.expr.args)) (hi : Le i (vints n.inn)) (hf : FitN n) (L : List Nd) (hL : L.length ≤ 1000000) (bs0 : List (Nat × B)) (hs : Sh s L bs0) (lf : List (Nat × B)) :
    Ok Tryz.prog 29 [ptr s, .agg (cNu n u a i)] (lf ++ bs0) fun v bs rs => ∃ b1, bs = lf ++ b1 ∧ ((lf ++ b1).map (·.1)).Nodup ∧ v = vint (putM L n).2 ∧ Sh s (putM L n).1 b1 ∧ rs = [] :=
  Ok.le (.cons (Le.refl _) (.cons (leN n hu ha hi) .nil)) (Ok.frame lf (put_ok n s hf L hL bs0 hs))
abbrev pt8 (b o : Nat) : V := .lit (.pointer (some ⟨b, o, none⟩))
abbrev rI (y : Value) : VL.Row := ⟨y, 1, 3⟩
/-- The region that appends an operand's index: what its operations have done. -/
def In21 (b3 b5 b6 b8 b10 s : Nat) (hd : Hd) (l : List E) (x : E) (no : Nd) (u a : V) (y : Value) (ks : List Int) (Li : List Nd) (p : List Nd × Nat) (i : Nat) (L : Nat → Bool) (S : St) : Prop :=
  S.σ 1 = ptr b5 ∧ S.σ 2 = ptr b6 ∧ S.σ 3 = ptr b3 ∧ S.σ 8 = ptr b8 ∧ S.σ 10 = ptr b10 ∧ S.σ 76 = vEs l ∧ S.σ 77 = vint l.length ∧ S.σ 78 = vint i ∧
  (L 0 = true → S.σ 82 = pt8 b8 22) ∧ (L 1 = true → S.σ 83 = .list (some y) 1 (ks.map fun k => [vint k])) ∧ (L 2 = true → S.σ 84 = fnW b5 b6) ∧ (L 3 = true → S.σ 85 = .agg (cH x.hd (vEs x.args))) ∧ (L 7 = true → S.σ 89 = pt8 b8 22) ∧
  ((L 4 = false ∧ L 5 = false ∧ L 6 = false ∧ L 8 = false ∧ S.rows = [rI y] ∧ ∃ bs', Sh s Li bs' ∧ S.boxes = (b10, .c (cH x.hd (vEs x.args))) :: (b8, .c (cNu no u a (.list (some y) 1 (ks.map fun k => [vint k])))) :: (b3, .c (cH hd (vEs l))) :: (fr b5 b6 s ++ bs')) ∨
   (L 4 = true ∧ L 5 = false ∧ L 6 = false ∧ L 8 = false ∧ S.rows = [rI y] ∧ S.σ 86 = vint p.2 ∧ ∃ bs', Sh s p.1 bs' ∧ S.boxes = (b10, .c (cH x.hd (vEs x.args))) :: (b8, .c (cNu no u a (.list (some y) 1 (ks.map fun k => [vint k])))) :: (b3, .c (cH hd (vEs l))) :: (fr b5 b6 s ++ bs')) ∨
   (∃ y5, L 4 = true ∧ L 5 = true ∧ L 6 = false ∧ L 8 = false ∧ S.rows = [rI y5, rI y] ∧ S.σ 87 = .list (some y5) 1 [[vint p.2]] ∧ ∃ bs', Sh s p.1 bs' ∧ S.boxes = (b10, .c (cH x.hd (vEs x.args))) :: (b8, .c (cNu no u a (.list (some y) 1 (ks.map fun k => [vint k])))) :: (b3, .c (cH hd (vEs l))) :: (fr b5 b6 s ++ bs')) ∨
   (∃ y6 rr, L 4 = true ∧ L 5 = true ∧ L 6 = true ∧ L 8 = false ∧ L 1 = true ∧ S.rows = rI y6 :: rr ∧ S.σ 88 = .list (some y6) 1 ((ks.map fun k => [vint k]) ++ [[vint p.2]]) ∧ ∃ bs', Sh s p.1 bs' ∧ S.boxes = (b10, .c (cH x.hd (vEs x.args))) :: (b8, .c (cNu no u a (.list (some y) 1 (ks.map fun k => [vint k])))) :: (b3, .c (cH hd (vEs l))) :: (fr b5 b6 s ++ bs')) ∨
   (∃ y6 rr, L 4 = true ∧ L 5 = true ∧ L 6 = true ∧ L 8 = true ∧ L 1 = true ∧ S.rows = rI y6 :: rr ∧ ∃ bs', Sh s p.1 bs' ∧ S.boxes = (b10, .c (cH x.hd (vEs x.args))) :: (b8, .c (cNu no u a (.list (some y6) 1 ((ks.map fun k => [vint k]) ++ [[vint p.2]])))) :: (b3, .c (cH hd (vEs l))) :: (fr b5 b6 s ++ bs')))
set_option linter.defProp false in
def tbLJ1 := (aI (aI (aI (aI (aI (aI (aI Ty.sz3 Ty.by3) (aI Ty.ag3 Ty.zr3)) (aI (aI Ty.un3 Ty.sz4) (aI Ty.by4 Ty.ag4))) (aI (aI (aI Ty.zr4 Ty.un4) (aI Ty.sz9 Ty.by9)) (aI (aI Ty.ag9 Ty.zr9) (aI Ty.un9 Ty.sz22)))) (aI (aI (aI (aI Ty.by22 Ty.ag22) (aI Ty.zr22 Ty.un22)) (aI (aI Ty.sz28 Ty.by28) (aI Ty.ag28 Ty.zr28))) (aI (aI (aI Ty.fl28_0 Ty.pl28_0) (aI Ty.fl28_1 Ty.pl28_1)) (aI (aI Ty.fl28_2 Ty.pl28_2) (aI Ty.sz29 Ty.by29))))) (aI (aI (aI (aI (aI Ty.ag29 Ty.zr29) (aI Ty.un29 Ty.sz31)) (aI (aI Ty.by31 Ty.ag31) (aI Ty.zr31 Ty.fl31_0))) (aI (aI (aI Ty.pl31_0 Ty.fl31_1) (aI Ty.pl31_1 Ty.sz32)) (aI (aI Ty.by32 Ty.ag32) (aI Ty.zr32 Ty.un32)))) (aI (aI (aI (aI Ty.sz34 Ty.by34) (aI Ty.ag34 Ty.zr34)) (aI (aI Ty.fl34_0 Ty.pl34_0) (aI Ty.fl34_1 Ty.pl34_1))) (aI (aI (aI Ty.fl34_2 Ty.pl34_2) (aI Ty.fl34_3 Ty.pl34_3)) (aI (aI Ty.fl34_4 Ty.pl34_4) (aI Ty.fl34_5 (aI Ty.pl34_5 Ty.fl34_6))))))) (aI (aI (aI (aI (aI (aI Ty.pl34_6 Ty.fl34_7) (aI Ty.pl34_7 Ty.fl34_8)) (aI (aI Ty.pl34_8 Ty.sz45) (aI Ty.by45 Ty.ag45))) (aI (aI (aI Ty.zr45 Ty.un45) (aI Ty.sz47 Ty.by47)) (aI (aI Ty.ag47 Ty.zr47) (aI Ty.fl47_0 Ty.pl47_0)))) (aI (aI (aI (aI Ty.fl47_1 Ty.pl47_1) (aI Ty.fl47_2 Ty.pl47_2)) (aI (aI Ty.fl47_3 Ty.pl47_3) (aI Ty.fl47_4 Ty.pl47_4))) (aI (aI (aI Ty.fl47_5 Ty.pl47_5) (aI Ty.fl47_6 Ty.pl47_6)) (aI (aI Ty.fl47_7 Ty.pl47_7) (aI Ty.fl47_8 (aI Ty.pl47_8 Ty.sz63)))))) (aI (aI (aI (aI (aI Ty.by63 Ty.ag63) (aI Ty.zr63 Ty.sz67)) (aI (aI Ty.by67 Ty.ag67) (aI Ty.zr67 Ty.sz72))) (aI (aI (aI Ty.by72 Ty.ag72) (aI Ty.zr72 Ty.un72)) (aI (aI Ty.sz74 Ty.by74) (aI Ty.ag74 Ty.zr74)))) (aI (aI (aI (aI Ty.fl74_0 Ty.pl74_0) (aI Ty.fl74_1 Ty.pl74_1)) (aI (aI Ty.sz103 Ty.by103) (aI Ty.ag103 Ty.zr103))) (aI (aI (aI Ty.fl103_0 Ty.pl103_0) (aI Ty.fl103_1 Ty.pl103_1)) (aI (aI Ty.eq28 Ty.eq31) (aI Ty.eq103 (aI Ty.cb28 Ty.cb29))))))))
set_option maxHeartbeats 4000000 in
theorem walk_ok : ∀ x : E, Fit x → Agg2 x → ∀ (b5 b6 s : Nat) (hb : b5 ≠ b6 ∧ b6 ≠ b5) (L : List Nd) (bs0 : List (Nat × B)), Sh s L bs0 → L.length + 4 * sizeE x ≤ 1000000 →
    Ok Tryz.prog 28 [vE x, ptr b5, ptr b6] (fr b5 b6 s ++ bs0) fun v bs rs => v = vint (lowE L x).2 ∧ (∃ bs1, bs = fr b5 b6 s ++ bs1 ∧ Sh s (lowE L x).1 bs1) ∧ rs = [] := by
  intro x
  induction x using E.ind with
  | h hd l ih =>
  intro hf hg b5 b6 s hb L bs0 hs hL
  have hl := hf.len
  have hu := hf.unit
  have ha := hf.args
  simp only [E.args, E.hd, big] at hl ha hu
  rw [vE, cE_mk]
  refine Ok.of_exM [(3, 4), (4, 4), (21, 3)] Ty.mixed Tryz.func28 rfl (by simp [Tryz.ntmps28]) (by kernel_rfl) fun F w0 I0 => ?_
  simp only [↓rA, rB]
  refine fun b3 h3 => ?_; replace h3 := newb h3; try simp only [Nb] at h3
  by_cases e : hd.kind = 5
  · have h2 : 2 ≤ l.length := by cases hg with | mk _ _ hk _ => exact hk e
    match l, h2 with
    | a :: c :: r, _ =>
    simp only [↓rA, rB, Nat.reduceAdd, Nat.reduceEqDiff, Nat.reduceLeDiff, tbLJ1, h3, e, hb]
    have fa := ha a (by simp)
    have fc := ha c (by simp)
    have hL4 : L.length + 4 ≤ 1000000 := by rw [sizeE_mk] at hL; omega
    have hov : lowE L (.mk hd (a :: c :: r)) = overM L hd a c := lowE_agg L hd a c r e
    rw [hov]
    unfold overM
    have one : ∀ (k : Int), [k].length ≤ big := fun k => by simp [big]
    have l1 := putM_len L { nd0 1 with table := hd.table }
    refine OkF_with _ [] (List.Perm.of_eq (List.append_nil _).symm) (putF { nd0 1 with table := hd.table } s nilS nilS nilS (Le.nil 2) (Le.nil 12) (Le.nil 1) ⟨fit0, by simp [big]⟩ L (by omega) bs0 hs [_, _, _]) ?_
    rintro v bs rs ⟨b1, rfl, _, rfl, hs1, rfl⟩
    generalize putM L { nd0 1 with table := hd.table } = p at l1 hs1 ⊢
    try simp only
    have i1 : (1 : Int) < ((r.length + 1 + 1 : Nat) : Int) := by omega
    have i0 : (0 : Int) < ((r.length + 1 + 1 : Nat) : Int) := by omega
    simp only [↓rA, rB, Int.reduceLE, Int.reduceToNat, Nat.reduceAdd, Nat.reduceEqDiff, Nat.reduceLT, Nat.reduceLeDiff, Nat.reduceMul, reduceCtorEq, tbLJ1, h3, e, hb, cE_eq a, cE_eq c, List.length_map, i1]
    intro y1
    refine OkF_with _ [] (List.Perm.of_eq (List.append_nil _).symm) (putF { nd0 2 with expr := c, inn := [(p.2 : Int)] } s (vFacs c.hd.unit) (vEs c.args) _ (Le.refl _) (Le.refl _) (Le.list _ _ _) ⟨fc, by simp [big]⟩ p.1 (by omega) b1 hs1 [_, _, _]) ?_
    rintro v bs rs ⟨b2, rfl, _, rfl, hs2, rfl⟩
    have l2 := putM_len p.1 { nd0 2 with expr := c, inn := [(p.2 : Int)] }
    generalize putM p.1 { nd0 2 with expr := c, inn := [(p.2 : Int)] } = q at l2 hs2 ⊢
    try simp only
    simp only [↓rA, rB, Int.reduceToNat, Nat.reduceAdd, Nat.reduceEqDiff, Nat.reduceLT, Nat.reduceLeDiff, Nat.reduceMul, reduceCtorEq, tbLJ1, h3, e, hb, cE_eq a, cE_eq c, List.length_map, i0]
    intro y2
    refine OkF_with _ [] (List.Perm.of_eq (List.append_nil _).symm) (putF { nd0 3 with expr := a, inn := [(q.2 : Int)] } s (vFacs a.hd.unit) (vEs a.args) _ (Le.refl _) (Le.refl _) (Le.list _ _ _) ⟨fa, by simp [big]⟩ q.1 (by omega) b2 hs2 [_, _, _]) ?_
    rintro v bs rs ⟨b3', rfl, _, rfl, hs3, rfl⟩
    have l3 := putM_len q.1 { nd0 3 with expr := a, inn := [(q.2 : Int)] }
    generalize putM q.1 { nd0 3 with expr := a, inn := [(q.2 : Int)] } = t at l3 hs3 ⊢
    try simp only
    simp only [↓rA, rB, Nat.reduceAdd, Nat.reduceEqDiff, Nat.reduceLT, Nat.reduceLeDiff, Nat.reduceMul, reduceCtorEq, tbLJ1, h3, e, hb, cE_eq a, cE_eq c]
    intro y3
    refine OkF_with _ [] (List.Perm.of_eq (List.append_nil _).symm) (putF { nd0 4 with op := hd.op, param := hd.param, wk := hd.wk, ws := hd.ws, inn := [(t.2 : Int)] } s nilS nilS _ (Le.nil 2) (Le.nil 12) (Le.list _ _ _) ⟨fit0, by simp [big]⟩ t.1 (by omega) b3' hs3 [_, _, _]) ?_
    rintro v bs rs ⟨b4, rfl, _, rfl, hs4, rfl⟩
    generalize putM t.1 { nd0 4 with op := hd.op, param := hd.param, wk := hd.wk, ws := hd.ws, inn := [(t.2 : Int)] } = z at hs4 ⊢
    simp only [↓rA, rB, Tryz.results28, e]
    exact ⟨_, _, [], Le.refl _, List.Sublist.cons _ (List.Sublist.refl _), List.nil_sublist _, rfl, ⟨b4, rfl, hs4⟩, rfl⟩
  · have hop : lowE L (.mk hd l) = putM (lowEs L l).1 { ownM hd l with inn := (lowEs L l).2 } := lowE_op L hd l e
    rw [hop]
    rw [sizeE_mk] at hL
    simp only [↓rA, rB, Nat.reduceAdd, Nat.reduceEqDiff, Nat.reduceLeDiff, tbLJ1, e]
    refine fun b8 h8 => ?_; replace h8 := newb h8; try simp only [Nb] at h8
    simp only [↓EX_seq, ↓EX_region, ↓EX_ops_nil, ↓EX_plain, ↓ST_load, ↓ST_fieldAddr, ↓ST_store, ↓loadK_eq, ↓fieldAddrK_eq, ↓loadD_one, ↓storeK_eq, onVal_eq, Todo_eq, put_eq, put_ne, put_none, put_boxes, addBox_σ, addBox_boxes, setBoxes_σ, setBoxes_boxes, S0_boxes, ev_tmp, getB_same, getB_other, setB_same, onSome_some, onHead_cons, shiftP_ptr, atP_ptr, posK_succ, onPtr_ptr, And2_true, cellsV, oneB, okC, Nat.le_refl, eq_self, and_self, not_false_eq_true, ne_eq, List.map_cons, List.map_nil, List.take_zero, List.drop_succ_cons, List.drop_zero, List.drop_nil, List.length_cons, List.length_nil, List.cons_append, List.nil_append, List.append_nil, List.toList_toArray, Nat.add_zero, Nat.zero_add, Bool.and_true, Nat.reduceEqDiff, Nat.reduceAdd, tbLJ1, Tryz.results28, h8]
    refine EX_cut (fun S => ∃ u a, Le u (vFacs (ownM hd l).expr.hd.unit) ∧ Le a (vEs (ownM hd l).expr.args) ∧ S.boxes = (b8, .c (cNu (ownM hd l) u a nilS)) :: (b3, .c (cH hd (vEs l))) :: (fr b5 b6 s ++ bs0) ∧ S.rows = [] ∧ S.σ 1 = ptr b5 ∧ S.σ 2 = ptr b6 ∧ S.σ 3 = ptr b3 ∧ S.σ 8 = ptr b8) ?_ ?_
    · by_cases e1 : hd.kind = 1
      · have hn : ownM hd l = { nd0 5 with val := hd.val, expr := .mk hd l } := by simp [ownM, e1]
        rw [hn]
        simp only [↓rA, rB, Nat.reduceAdd, Nat.reduceEqDiff, Nat.reduceLeDiff, tbLJ1, h8, e1]
        exact ⟨_, _, Le.refl _, Le.refl _, by rw [← e1]; rfl⟩
      by_cases e3 : hd.kind = 3
      · have hn : ownM hd l = { nd0 6 with name := hd.name } := by simp [ownM, e3]
        rw [hn]
        simp only [↓rA, rB, Int.reduceEq, Nat.reduceAdd, Nat.reduceEqDiff, Nat.reduceLeDiff, tbLJ1, h8, e3]
        exact ⟨_, _, Le.nil 2, Le.nil 12, rfl⟩
      by_cases e4 : hd.kind = 4
      · have hn : ownM hd l = { nd0 7 with name := hd.name } := by simp [ownM, e4]
        rw [hn]
        simp only [↓rA, rB, Int.reduceEq, Nat.reduceAdd, Nat.reduceEqDiff, Nat.reduceLeDiff, tbLJ1, h8, e4]
        exact ⟨_, _, Le.nil 2, Le.nil 12, rfl⟩
      by_cases e8 : hd.kind = 8
      · have hn : ownM hd l = { nd0 8 with op := sIf } := by simp [ownM, e8]
        rw [hn]
        simp only [↓rA, rB, Int.reduceEq, Nat.reduceAdd, Nat.reduceEqDiff, Nat.reduceLeDiff, tbLJ1, e8]
        exact ⟨_, _, Le.nil 2, Le.nil 12, rfl⟩
      by_cases e9 : hd.kind = 9
      · have hn : ownM hd l = { nd0 8 with op := sDefault } := by simp [ownM, e9]
        rw [hn]
        simp only [↓rA, rB, Int.reduceEq, Nat.reduceAdd, Nat.reduceEqDiff, Nat.reduceLeDiff, tbLJ1, e9]
        exact ⟨_, _, Le.nil 2, Le.nil 12, rfl⟩
      have hn : ownM hd l = { nd0 8 with op := hd.op } := by simp [ownM, e1, e3, e4, e8, e9]
      rw [hn]
      simp only [↓rA, rB, Nat.reduceEqDiff, e1, e3, e4, e8, e9]
      exact ⟨_, _, Le.nil 2, Le.nil 12, rfl⟩
    rintro S ⟨u, a, hlu, hla, gb, gr, g1, g2, g3, g8⟩
    have fo : Fit (ownM hd l).expr := by
      unfold ownM
      repeat' split
      all_goals first | exact hf | exact fit0
    generalize hno : ownM hd l = no at hlu hla gb fo ⊢
    simp only [↓rA, rB, tbLJ1, gb, g3, h8]
    refine EX_nilB (cs' := cNu no u a (.list (some nilv) 1 [])) (k := 1) (e := 3) [] ((b3, .c (cH hd (vEs l))) :: (fr b5 b6 s ++ bs0)) (by simp only [rB, gb]; try rfl) (leNi no u a) (by decide) ?_
    refine EX_forS Ty.mixed (by kernel_rfl) l.length (fun i S => ∃ y bs1, S.boxes = (b8, .c (cNu no u a (.list (some y) 1 ((lowEs L (l.take i)).2.map fun k => [vint k])))) :: (b3, .c (cH hd (vEs l))) :: (fr b5 b6 s ++ bs1) ∧ Sh s (lowEs L (l.take i)).1 bs1 ∧ S.rows = [⟨y, 1, 3⟩] ∧ S.σ 1 = ptr b5 ∧ S.σ 2 = ptr b6 ∧ S.σ 3 = ptr b3 ∧ S.σ 8 = ptr b8 ∧ S.σ 76 = vEs l ∧ S.σ 77 = vint l.length ∧ S.σ 78 = vint i) ⟨_, _, List.Sublist.refl _, List.Sublist.refl _, ?_⟩ (fun i S hi ⟨y, bs1, gb, hs1, gr, g1, g2, g3, g8, g76, g77, g78⟩ => ?_) (fun S ⟨y, bs1, gb, hs1, gr, g1, g2, g3, g8, g76, g77, g78⟩ => ?_)
    · simp only [rB, Nat.reduceEqDiff, gr, g1, g2, g3, g8, List.length_map]
      exact ⟨nilv, bs0, rfl, hs, rfl⟩
    · have hwi := wrap_succ (i := i) (N := l.length) hi (by omega)
      have hx := List.getElem_mem hi
      simp only [↓rA, rB, Nat.reduceAdd, Nat.reduceEqDiff, tbLJ1, gb, gr, g76, g77, g78, Int.ofNat_lt, hi, List.length_map, getD_map _ _ _ hi, cE_eq]
      refine fun b10 h10 => ?_; replace h10 := newb h10; try simp only [Nb] at h10
      simp only [↓rA, rB, Nat.reduceAdd, Nat.reduceEqDiff, tbLJ1, gb, getD_map _ _ _ hi]
      have hn : (b8 ≠ b10 ∧ b10 ≠ b8) ∧ (b3 ≠ b10 ∧ b10 ≠ b3) ∧ (b6 ≠ b10 ∧ b10 ≠ b6) ∧ (b5 ≠ b10 ∧ b10 ≠ b5) ∧ (b3 ≠ b8 ∧ b8 ≠ b3) ∧ (b6 ≠ b8 ∧ b8 ≠ b6) ∧ (b5 ≠ b8 ∧ b8 ≠ b5) ∧ (b6 ≠ b3 ∧ b3 ≠ b6) ∧ (b5 ≠ b3 ∧ b3 ≠ b5) ∧ (b5 ≠ b6 ∧ b6 ≠ b5) :=
        ⟨h10.1, h10.2.1, h10.2.2.1, h10.2.2.2.1, h8.1, h8.2.1, h8.2.2.1, h3.1, h3.2.1, hb⟩
      have hga : ∀ z ∈ l, Agg2 z := by cases hg with | mk _ _ _ h => exact h
      have hlen : (lowEs L (l.take i)).1.length + 4 * sizeE l[i] ≤ 1000000 := by
        have h1 := lowEs_len (l.take i) L
        have h2 : sizeEs (l.take (i + 1)) ≤ sizeEs l := by
          conv => rhs; rw [← List.take_append_drop (i + 1) l]
          rw [sizeEs_append]; omega
        rw [List.take_succ_eq_append_getElem hi, sizeEs_append] at h2
        simp only [sizeEs] at h2
        omega
      have hlow : lowEs L (l.take (i + 1)) = ((lowE (lowEs L (l.take i)).1 l[i]).1, (lowEs L (l.take i)).2 ++ [((lowE (lowEs L (l.take i)).1 l[i]).2 : Int)]) := by
        rw [List.take_succ_eq_append_getElem hi, lowEs_append]; rfl
      rw [hlow]
      have hkl : ((lowEs L (l.take i)).2.length + 1) * 8 ≤ 140737488355328 := by
        rw [lowEs_ks, List.length_take]; omega
      generalize hLi : (lowEs L (l.take i)).1 = Li at *
      generalize hks : (lowEs L (l.take i)).2 = ks at *
      refine EX_invA Ty.mixed (by kernel_rfl) (by kernel_rfl) (In21 b3 b5 b6 b8 b10 s hd l l[i] no u a y ks Li (lowE Li l[i]) i) ?_ ?_ ?_
      · refine ⟨?_, ?_, ?_, ?_, ?_, ?_, ?_, ?_, (fun h => by cases h), (fun h => by cases h), (fun h => by cases h), (fun h => by cases h), (fun h => by cases h), .inl ⟨rfl, rfl, rfl, rfl, ?_, bs1, hs1, ?_⟩⟩ <;> first | exact rfl | simp only [rB, Nat.reduceEqDiff, gr, g1, g2, g3, g8, g76, g77, g78]
      · clear gr gb g1 g2 g3 g8 g76 g77 g78
        intro D S j o ho hL he ⟨g1, g2, g3, g8, g10, g76, g77, g78, f0, f1, f2, f3, f7, hph⟩
        match j, ho with
        | 0, ho =>
          cases ho
          rcases hph with ⟨h4, h5, h6, hh8, gr, bs2, hsb, gb⟩ | ⟨h4, h5, h6, hh8, gr, g86, bs2, hsb, gb⟩ | ⟨y5, h4, h5, h6, hh8, gr, g87, bs2, hsb, gb⟩ | ⟨y6, rr, h4, h5, h6, hh8, h1, gr, g88, bs2, hsb, gb⟩ | ⟨y6, rr, h4, h5, h6, hh8, h1, gr, bs2, hsb, gb⟩
          · simp only [↓rA, rB, tbLJ1, g8]
            exact ⟨g1, g2, g3, g8, g10, g76, g77, g78, fun _ => rfl, f1, f2, f3, f7, (.inl (⟨h4, h5, h6, hh8, gr, bs2, hsb, gb⟩))⟩
          · simp only [↓rA, rB, tbLJ1, g8]
            exact ⟨g1, g2, g3, g8, g10, g76, g77, g78, fun _ => rfl, f1, f2, f3, f7, (.inr (.inl (⟨h4, h5, h6, hh8, gr, g86, bs2, hsb, gb⟩)))⟩
          · simp only [↓rA, rB, tbLJ1, g8]
            exact ⟨g1, g2, g3, g8, g10, g76, g77, g78, fun _ => rfl, f1, f2, f3, f7, (.inr (.inr (.inl (⟨y5, h4, h5, h6, hh8, gr, g87, bs2, hsb, gb⟩))))⟩
          · simp only [↓rA, rB, tbLJ1, g8]
            exact ⟨g1, g2, g3, g8, g10, g76, g77, g78, fun _ => rfl, f1, f2, f3, f7, (.inr (.inr (.inr (.inl (⟨y6, rr, h4, h5, h6, hh8, h1, gr, g88, bs2, hsb, gb⟩)))))⟩
          · simp only [↓rA, rB, tbLJ1, g8]
            exact ⟨g1, g2, g3, g8, g10, g76, g77, g78, fun _ => rfl, f1, f2, f3, f7, (.inr (.inr (.inr (.inr ((⟨y6, rr, h4, h5, h6, hh8, h1, gr, bs2, hsb, gb⟩))))))⟩
        | 1, ho =>
          cases ho
          have q0 := f0 (he ⟨0, .data⟩ (by simp) rfl)
          rcases hph with ⟨h4, h5, h6, hh8, gr, bs2, hsb, gb⟩ | ⟨h4, h5, h6, hh8, gr, g86, bs2, hsb, gb⟩ | ⟨y5, h4, h5, h6, hh8, gr, g87, bs2, hsb, gb⟩ | ⟨y6, rr, h4, h5, h6, hh8, h1, gr, g88, bs2, hsb, gb⟩ | ⟨y6, rr, h4, h5, h6, hh8, h1, gr, bs2, hsb, gb⟩
          · simp only [↓rA, rB, tbLJ1, gb, hn, q0]
            exact ⟨g1, g2, g3, g8, g10, g76, g77, g78, f0, fun _ => rfl, f2, f3, f7, (.inl (⟨h4, h5, h6, hh8, gr, bs2, hsb, gb⟩))⟩
          · simp only [↓rA, rB, tbLJ1, gb, hn, q0]
            exact ⟨g1, g2, g3, g8, g10, g76, g77, g78, f0, fun _ => rfl, f2, f3, f7, (.inr (.inl (⟨h4, h5, h6, hh8, gr, g86, bs2, hsb, gb⟩)))⟩
          · simp only [↓rA, rB, tbLJ1, gb, hn, q0]
            exact ⟨g1, g2, g3, g8, g10, g76, g77, g78, f0, fun _ => rfl, f2, f3, f7, (.inr (.inr (.inl (⟨y5, h4, h5, h6, hh8, gr, g87, bs2, hsb, gb⟩))))⟩
          · rw [h1] at hL; cases hL
          · rw [h1] at hL; cases hL
        | 2, ho =>
          cases ho
          rcases hph with ⟨h4, h5, h6, hh8, gr, bs2, hsb, gb⟩ | ⟨h4, h5, h6, hh8, gr, g86, bs2, hsb, gb⟩ | ⟨y5, h4, h5, h6, hh8, gr, g87, bs2, hsb, gb⟩ | ⟨y6, rr, h4, h5, h6, hh8, h1, gr, g88, bs2, hsb, gb⟩ | ⟨y6, rr, h4, h5, h6, hh8, h1, gr, bs2, hsb, gb⟩
          · simp only [↓rA, rB, tbLJ1, gb, g2, hn]
            exact ⟨g1, g2, g3, g8, g10, g76, g77, g78, f0, f1, fun _ => rfl, f3, f7, (.inl (⟨h4, h5, h6, hh8, gr, bs2, hsb, gb⟩))⟩
          · simp only [↓rA, rB, tbLJ1, gb, g2, hn]
            exact ⟨g1, g2, g3, g8, g10, g76, g77, g78, f0, f1, fun _ => rfl, f3, f7, (.inr (.inl (⟨h4, h5, h6, hh8, gr, g86, bs2, hsb, gb⟩)))⟩
          · simp only [↓rA, rB, tbLJ1, gb, g2, hn]
            exact ⟨g1, g2, g3, g8, g10, g76, g77, g78, f0, f1, fun _ => rfl, f3, f7, (.inr (.inr (.inl (⟨y5, h4, h5, h6, hh8, gr, g87, bs2, hsb, gb⟩))))⟩
          · simp only [↓rA, rB, tbLJ1, gb, g2, hn]
            exact ⟨g1, g2, g3, g8, g10, g76, g77, g78, f0, f1, fun _ => rfl, f3, f7, (.inr (.inr (.inr (.inl (⟨y6, rr, h4, h5, h6, hh8, h1, gr, g88, bs2, hsb, gb⟩)))))⟩
          · simp only [↓rA, rB, tbLJ1, gb, g2, hn]
            exact ⟨g1, g2, g3, g8, g10, g76, g77, g78, f0, f1, fun _ => rfl, f3, f7, (.inr (.inr (.inr (.inr ((⟨y6, rr, h4, h5, h6, hh8, h1, gr, bs2, hsb, gb⟩))))))⟩
        | 3, ho =>
          cases ho
          rcases hph with ⟨h4, h5, h6, hh8, gr, bs2, hsb, gb⟩ | ⟨h4, h5, h6, hh8, gr, g86, bs2, hsb, gb⟩ | ⟨y5, h4, h5, h6, hh8, gr, g87, bs2, hsb, gb⟩ | ⟨y6, rr, h4, h5, h6, hh8, h1, gr, g88, bs2, hsb, gb⟩ | ⟨y6, rr, h4, h5, h6, hh8, h1, gr, bs2, hsb, gb⟩
          · simp only [↓rA, rB, Nat.reduceAdd, tbLJ1, gb, g10]
            exact ⟨g1, g2, g3, g8, g10, g76, g77, g78, f0, f1, f2, fun _ => rfl, f7, (.inl (⟨h4, h5, h6, hh8, gr, bs2, hsb, gb⟩))⟩
          · simp only [↓rA, rB, Nat.reduceAdd, tbLJ1, gb, g10]
            exact ⟨g1, g2, g3, g8, g10, g76, g77, g78, f0, f1, f2, fun _ => rfl, f7, (.inr (.inl (⟨h4, h5, h6, hh8, gr, g86, bs2, hsb, gb⟩)))⟩
          · simp only [↓rA, rB, Nat.reduceAdd, tbLJ1, gb, g10]
            exact ⟨g1, g2, g3, g8, g10, g76, g77, g78, f0, f1, f2, fun _ => rfl, f7, (.inr (.inr (.inl (⟨y5, h4, h5, h6, hh8, gr, g87, bs2, hsb, gb⟩))))⟩
          · simp only [↓rA, rB, Nat.reduceAdd, tbLJ1, gb, g10]
            exact ⟨g1, g2, g3, g8, g10, g76, g77, g78, f0, f1, f2, fun _ => rfl, f7, (.inr (.inr (.inr (.inl (⟨y6, rr, h4, h5, h6, hh8, h1, gr, g88, bs2, hsb, gb⟩)))))⟩
          · simp only [↓rA, rB, Nat.reduceAdd, tbLJ1, gb, g10]
            exact ⟨g1, g2, g3, g8, g10, g76, g77, g78, f0, f1, f2, fun _ => rfl, f7, (.inr (.inr (.inr (.inr ((⟨y6, rr, h4, h5, h6, hh8, h1, gr, bs2, hsb, gb⟩))))))⟩
        | 4, ho =>
          cases ho
          have q2 := f2 (he ⟨2, .data⟩ (by simp) rfl)
          have q3 := f3 (he ⟨3, .data⟩ (by simp) rfl)
          rcases hph with ⟨h4, h5, h6, hh8, gr, bs2, hsb, gb⟩ | ⟨h4, h5, h6, hh8, gr, g86, bs2, hsb, gb⟩ | ⟨y5, h4, h5, h6, hh8, gr, g87, bs2, hsb, gb⟩ | ⟨y6, rr, h4, h5, h6, hh8, h1, gr, g88, bs2, hsb, gb⟩ | ⟨y6, rr, h4, h5, h6, hh8, h1, gr, bs2, hsb, gb⟩
          · have hc := ih l[i] hx (ha _ hx) (hga _ hx) b5 b6 s hb Li bs2 hsb hlen
            rw [vE, cE_eq] at hc
            simp only [↓rA, rB, tbLJ1, gb, q2, q3]
            refine OkF_with _ [] (List.Perm.of_eq (List.append_nil _).symm) (Ok.frame [_, _, _] hc) ?_
            rintro v bs rs ⟨b1, rfl, _, rfl, ⟨bs3, rfl, hs3⟩, rfl⟩
            simp only [↓rA, rB, gr]
            exact ⟨g1, g2, g3, g8, g10, g76, g77, g78, f0, f1, f2, f3, f7, (.inr (.inl (⟨rfl, h5, h6, hh8, rfl, rfl, bs3, hs3, rfl⟩)))⟩
          all_goals (rw [h4] at hL; cases hL)
        | 5, ho =>
          cases ho
          have q4 := he ⟨4, .data⟩ (by simp) rfl
          replace q4 : D 4 = true := q4
          rcases hph with ⟨h4, h5, h6, hh8, gr, bs2, hsb, gb⟩ | ⟨h4, h5, h6, hh8, gr, g86, bs2, hsb, gb⟩ | ⟨y5, h4, h5, h6, hh8, gr, g87, bs2, hsb, gb⟩ | ⟨y6, rr, h4, h5, h6, hh8, h1, gr, g88, bs2, hsb, gb⟩ | ⟨y6, rr, h4, h5, h6, hh8, h1, gr, bs2, hsb, gb⟩
          · rw [q4] at h4; cases h4
          · simp only [↓rA, rB, Nat.reduceLT, Nat.reduceLeDiff, Nat.reduceMul, tbLJ1, g86]
            exact fun y5 => ⟨g1, g2, g3, g8, g10, g76, g77, g78, f0, f1, f2, f3, f7, (.inr (.inr (.inl (⟨y5, h4, rfl, h6, hh8, (by show _ :: S.rows = _; rw [gr]), rfl, bs2, hsb, gb⟩))))⟩
          all_goals (rw [h5] at hL; cases hL)
        | 6, ho =>
          cases ho
          have q1 := he ⟨1, .data⟩ (by simp) rfl
          replace q1 : D 1 = true := q1
          have q5 := he ⟨5, .data⟩ (by simp) rfl
          replace q5 : D 5 = true := q5
          have q83 := f1 q1
          rcases hph with ⟨h4, h5, h6, hh8, gr, bs2, hsb, gb⟩ | ⟨h4, h5, h6, hh8, gr, g86, bs2, hsb, gb⟩ | ⟨y5, h4, h5, h6, hh8, gr, g87, bs2, hsb, gb⟩ | ⟨y6, rr, h4, h5, h6, hh8, h1, gr, g88, bs2, hsb, gb⟩ | ⟨y6, rr, h4, h5, h6, hh8, h1, gr, bs2, hsb, gb⟩
          · rw [q5] at h5; cases h5
          · rw [q5] at h5; cases h5
          · simp only [↓rA, rB, Nat.reduceLT, tbLJ1, gr, g87, q83]
            refine takeRF_2 ?_
            simp only [↓rA, rB, List.length_map, hkl]
            exact fun y6 => ⟨g1, g2, g3, g8, g10, g76, g77, g78, f0, f1, f2, f3, f7, (.inr (.inr (.inr (.inl (⟨y6, [rI y5], h4, h5, rfl, hh8, q1, rfl, rfl, bs2, hsb, gb⟩)))))⟩
          all_goals (rw [h6] at hL; cases hL)
        | 7, ho =>
          cases ho
          rcases hph with ⟨h4, h5, h6, hh8, gr, bs2, hsb, gb⟩ | ⟨h4, h5, h6, hh8, gr, g86, bs2, hsb, gb⟩ | ⟨y5, h4, h5, h6, hh8, gr, g87, bs2, hsb, gb⟩ | ⟨y6, rr, h4, h5, h6, hh8, h1, gr, g88, bs2, hsb, gb⟩ | ⟨y6, rr, h4, h5, h6, hh8, h1, gr, bs2, hsb, gb⟩
          · simp only [↓rA, rB, tbLJ1, g8]
            exact ⟨g1, g2, g3, g8, g10, g76, g77, g78, f0, f1, f2, f3, fun _ => rfl, (.inl (⟨h4, h5, h6, hh8, gr, bs2, hsb, gb⟩))⟩
          · simp only [↓rA, rB, tbLJ1, g8]
            exact ⟨g1, g2, g3, g8, g10, g76, g77, g78, f0, f1, f2, f3, fun _ => rfl, (.inr (.inl (⟨h4, h5, h6, hh8, gr, g86, bs2, hsb, gb⟩)))⟩
          · simp only [↓rA, rB, tbLJ1, g8]
            exact ⟨g1, g2, g3, g8, g10, g76, g77, g78, f0, f1, f2, f3, fun _ => rfl, (.inr (.inr (.inl (⟨y5, h4, h5, h6, hh8, gr, g87, bs2, hsb, gb⟩))))⟩
          · simp only [↓rA, rB, tbLJ1, g8]
            exact ⟨g1, g2, g3, g8, g10, g76, g77, g78, f0, f1, f2, f3, fun _ => rfl, (.inr (.inr (.inr (.inl (⟨y6, rr, h4, h5, h6, hh8, h1, gr, g88, bs2, hsb, gb⟩)))))⟩
          · simp only [↓rA, rB, tbLJ1, g8]
            exact ⟨g1, g2, g3, g8, g10, g76, g77, g78, f0, f1, f2, f3, fun _ => rfl, (.inr (.inr (.inr (.inr ((⟨y6, rr, h4, h5, h6, hh8, h1, gr, bs2, hsb, gb⟩))))))⟩
        | 8, ho =>
          cases ho
          have q6 := he ⟨6, .data⟩ (by simp) rfl
          replace q6 : D 6 = true := q6
          have q7 := f7 (he ⟨7, .data⟩ (by simp) rfl)
          rcases hph with ⟨h4, h5, h6, hh8, gr, bs2, hsb, gb⟩ | ⟨h4, h5, h6, hh8, gr, g86, bs2, hsb, gb⟩ | ⟨y5, h4, h5, h6, hh8, gr, g87, bs2, hsb, gb⟩ | ⟨y6, rr, h4, h5, h6, hh8, h1, gr, g88, bs2, hsb, gb⟩ | ⟨y6, rr, h4, h5, h6, hh8, h1, gr, bs2, hsb, gb⟩
          · rw [q6] at h6; cases h6
          · rw [q6] at h6; cases h6
          · rw [q6] at h6; cases h6
          · simp only [↓rA, rB, Nat.reduceAdd, tbLJ1, gb, hn, q7, g88]
            exact ⟨g1, g2, g3, g8, g10, g76, g77, g78, f0, f1, f2, f3, f7, (.inr (.inr (.inr (.inr ((⟨y6, rr, h4, h5, h6, rfl, h1, gr, bs2, hsb, rfl⟩))))))⟩
          · rw [hh8] at hL; cases hL
        | n + 9, ho => cases ho
      · clear gr gb g1 g2 g3 g8 g76 g77 g78
        intro D S hD ⟨g1, g2, g3, g8, g10, g76, g77, g78, f0, f1, f2, f3, f7, hph⟩
        replace hD : ∀ i, i < 9 → D i = true := hD
        have d5 := hD 5 (by decide)
        have d6 := hD 6 (by decide)
        have d8 := hD 8 (by decide)
        rcases hph with ⟨h4, h5, h6, hh8, gr, bs2, hsb, gb⟩ | ⟨h4, h5, h6, hh8, gr, g86, bs2, hsb, gb⟩ | ⟨y5, h4, h5, h6, hh8, gr, g87, bs2, hsb, gb⟩ | ⟨y6, rr, h4, h5, h6, hh8, h1, gr, g88, bs2, hsb, gb⟩ | ⟨y6, rr, h4, h5, h6, hh8, h1, gr, bs2, hsb, gb⟩
        · rw [d5] at h5; cases h5
        · rw [d5] at h5; cases h5
        · rw [d6] at h6; cases h6
        · rw [d8] at hh8; cases hh8
        · clear f0 f1 f2 f3 f7 hD
          simp only [↓rA, rB, g78, hwi]
          refine ⟨(b8, .c (cNu no u a (.list (some y6) 1 ((ks.map fun k => [vint k]) ++ [[vint (lowE Li l[i]).2]])))) :: (b3, .c (cH hd (vEs l))) :: (fr b5 b6 s ++ bs2), [rI y6], (by show List.Sublist _ S.boxes; rw [gb]; exact List.Sublist.cons _ (List.Sublist.refl _)), (by show List.Sublist _ S.rows; rw [gr]; exact List.Sublist.cons_cons _ (List.nil_sublist _)), y6, bs2, ?_, hsb, ?_⟩
          · rw [List.map_append]; rfl
          · simp only [rB, Nat.reduceEqDiff, g1, g2, g3, g8, g76, g77]
    · have hll := lowEs_len l L
      have hks2 := lowEs_ks l L
      rw [List.take_of_length_le (Nat.le_refl _)] at hs1 gb
      generalize lowEs L l = q at *
      simp only [↓rA, rB, Nat.reduceAdd, Nat.reduceEqDiff, tbLJ1, gb, g1, g8, g77, g78, h3, h8, hb, Int.ofNat_lt, Nat.lt_irrefl]
      have fin : FitN { no with inn := q.2 } := ⟨fo, by simp only; rw [hks2]; exact hl⟩
      refine OkF_with _ [] (List.Perm.of_eq (List.append_nil _).symm) (putF { no with inn := q.2 } s u a (.list (some y) 1 (q.2.map fun k => [vint k])) hlu hla (Le.list _ _ _) fin q.1 (by omega) bs1 hs1 [_, _, _, _]) ?_
      rintro v bs rs ⟨b1, rfl, _, rfl, hs4, rfl⟩
      generalize putM q.1 { no with inn := q.2 } = z at hs4 ⊢
      simp only [↓rA, rB]
      exact ⟨_, _, [], Le.refl _, List.Sublist.cons _ (List.Sublist.cons _ (List.Sublist.refl _)), List.nil_sublist _, rfl, ⟨b1, rfl, hs4⟩, rfl⟩
end Go.Proofs.YtphkmlogjgeipaaGreatDoor

/- Contracts of lowering, part j: what a proper form says of size; lower.Graph. -/
set_option linter.unusedSimpArgs false
set_option maxRecDepth 100000
-- @call 28
namespace Go.Proofs.YtphkmlogjgeipaaGreatDoor
open Go.VL Go.Ar Go.Lo Go.Proofs.YtphkmlogjgeipaaGreatDoor

theorem manyH_le (k : Int) : manyH k ≤ 3 := by
  unfold manyH
  repeat' split
  all_goals omega
theorem proper_parts {h : Hd} {l : List E} {ins : Bool} (hp : properE (.mk h l) ins = true) : okHd h ins = true ∧ h = wantH h ∧ (l.length : Int) = manyH h.kind ∧ (∀ x ∈ l, properE x (ins || decide (h.kind = 5)) = true) ∧ countOk h l = true := by
  rw [properE_mk] at hp
  simp only [Bool.and_eq_true, decide_eq_true_eq] at hp
  exact ⟨hp.1.1.1.1, hp.1.1.1.2, hp.1.1.2, (properEs_all l _).1 hp.1.2, hp.2⟩
theorem proper_agg2 : ∀ (x : E) (ins : Bool), properE x ins = true → Agg2 x := by
  intro x
  induction x using E.ind with
  | h hd l ih =>
  intro ins hp
  obtain ⟨_, _, h3, h4, _⟩ := proper_parts hp
  refine .mk _ _ (fun hk => ?_) fun y hy => ih y hy _ (h4 y hy)
  rw [hk] at h3
  have : (l.length : Int) = 2 := h3
  omega
theorem sizeEs_le (m : Nat) (hm : 1 ≤ m) : ∀ l : List E, l.length ≤ 3 → (∀ x ∈ l, 2 * sizeE x + 1 ≤ m) → 2 * (1 + sizeEs l) + 1 ≤ 3 * m
  | [], _, _ => by simp only [sizeEs]; omega
  | [a], _, h => by have := h a (by simp); simp only [sizeEs]; omega
  | [a, b], _, h => by have := h a (by simp); have := h b (by simp); simp only [sizeEs]; omega
  | [a, b, c], _, h => by have := h a (by simp); have := h b (by simp); have := h c (by simp); simp only [sizeEs]; omega
  | _ :: _ :: _ :: _ :: _, h, _ => by simp at h
theorem proper_size : ∀ (x : E) (ins : Bool), properE x ins = true → 2 * sizeE x + 1 ≤ 3 ^ depthE x := by
  intro x
  induction x using E.ind with
  | h hd l ih =>
  intro ins hp
  obtain ⟨_, _, h3, h4, _⟩ := proper_parts hp
  have hl : l.length ≤ 3 := by have := manyH_le hd.kind; omega
  have := sizeEs_le (3 ^ depthEs l) (Nat.pos_of_ne_zero (by simp)) l hl fun x hx => Nat.le_trans (ih x hx _ (h4 x hx)) (Nat.pow_le_pow_right (by decide) (depthEs_mem hx))
  rw [sizeE_mk, depthE_mk, Nat.pow_succ]
  omega
theorem shape_parts {x : E} (h : shapeC x = 0) : sizeE x ≤ 64 ∧ depthE x ≤ 12 ∧ properE x false = true := by
  unfold shapeC at h
  split at h
  · cases h
  · rename_i h1
    split at h
    · cases h
    · rename_i h2
      split at h
      · rename_i h3
        have h4 := proper_size x false h3
        have h5 : 3 ^ depthE x ≤ 3 ^ 12 := Nat.pow_le_pow_right (by decide) (by omega)
        rw [show (3 : Nat) ^ 12 = 531441 by decide] at h5
        rw [wrap_id (by omega) (by omega)] at h1
        exact ⟨by omega, by omega, h3⟩
      · cases h
theorem leTup {l l' : List V} (h : LeL l l') : Le (.tup l) (.tup l') := by
  intro w I x hx
  simp only [V.rep] at hx ⊢
  obtain ⟨xs, e, hr⟩ := hx
  exact ⟨xs, e, h.reps hr⟩
theorem Ok.norows' {P f args bs0 Q Q'} (h : Ok P f args bs0 Q) (hq : ∀ v bs rs, Q v bs rs → ∃ v' bs' rs', Le v v' ∧ bs'.Sublist bs ∧ rs'.Sublist rs ∧ Q' v' bs' rs') : Ok P f args bs0 Q' := by
  intro w I xs hr hH
  refine (h w I xs hr hH).mono fun e w' ⟨x, v, bs', rs', I', he, hv, hk, hh, hn, hQ⟩ => ?_
  obtain ⟨v2, bs2, rs2, hl, h1, h2, hQ'⟩ := hq _ _ _ hQ
  exact ⟨x, v2, bs2, rs2, I', he, hl w' I' x hv, hk, hh.sub h1 h2, fun b hb => hn b ((List.Sublist.append (h1.map _) (h2.filterMap _)).subset hb), hQ'⟩
/-- The nodes of an expression's graph. -/
noncomputable def graphC (x : E) : List Nd := if shapeC x = 0 then (lowE [] x).1 else []
set_option linter.defProp false in
def tbLK0 := (aI (aI (aI (aI (aI (aI (aI Ty.sz3 Ty.by3) (aI Ty.ag3 Ty.zr3)) (aI (aI Ty.un3 Ty.sz4) (aI Ty.by4 Ty.ag4))) (aI (aI (aI Ty.zr4 Ty.un4) (aI Ty.sz9 Ty.by9)) (aI (aI Ty.ag9 Ty.zr9) (aI Ty.un9 (aI Ty.sz22 Ty.by22))))) (aI (aI (aI (aI Ty.ag22 Ty.zr22) (aI Ty.un22 Ty.sz24)) (aI (aI Ty.by24 Ty.ag24) (aI Ty.zr24 (aI Ty.fl24_0 Ty.pl24_0)))) (aI (aI (aI Ty.sz28 Ty.by28) (aI Ty.ag28 Ty.zr28)) (aI (aI Ty.fl28_0 Ty.pl28_0) (aI Ty.fl28_1 (aI Ty.pl28_1 Ty.fl28_2)))))) (aI (aI (aI (aI (aI Ty.pl28_2 Ty.sz29) (aI Ty.by29 Ty.ag29)) (aI (aI Ty.zr29 Ty.un29) (aI Ty.sz31 (aI Ty.by31 Ty.ag31)))) (aI (aI (aI Ty.zr31 Ty.fl31_0) (aI Ty.pl31_0 Ty.fl31_1)) (aI (aI Ty.pl31_1 Ty.sz32) (aI Ty.by32 (aI Ty.ag32 Ty.zr32))))) (aI (aI (aI (aI Ty.un32 Ty.sz34) (aI Ty.by34 Ty.ag34)) (aI (aI Ty.zr34 Ty.fl34_0) (aI Ty.pl34_0 (aI Ty.fl34_1 Ty.pl34_1)))) (aI (aI (aI Ty.fl34_2 Ty.pl34_2) (aI Ty.fl34_3 Ty.pl34_3)) (aI (aI Ty.fl34_4 Ty.pl34_4) (aI Ty.fl34_5 (aI Ty.pl34_5 Ty.fl34_6))))))) (aI (aI (aI (aI (aI (aI Ty.pl34_6 Ty.fl34_7) (aI Ty.pl34_7 Ty.fl34_8)) (aI (aI Ty.pl34_8 Ty.sz35) (aI Ty.by35 (aI Ty.ag35 Ty.zr35)))) (aI (aI (aI Ty.un35 Ty.sz45) (aI Ty.by45 Ty.ag45)) (aI (aI Ty.zr45 Ty.un45) (aI Ty.sz47 (aI Ty.by47 Ty.ag47))))) (aI (aI (aI (aI Ty.zr47 Ty.fl47_0) (aI Ty.pl47_0 Ty.fl47_1)) (aI (aI Ty.pl47_1 Ty.fl47_2) (aI Ty.pl47_2 (aI Ty.fl47_3 Ty.pl47_3)))) (aI (aI (aI Ty.fl47_4 Ty.pl47_4) (aI Ty.fl47_5 Ty.pl47_5)) (aI (aI Ty.fl47_6 Ty.pl47_6) (aI Ty.fl47_7 (aI Ty.pl47_7 Ty.fl47_8)))))) (aI (aI (aI (aI (aI Ty.pl47_8 Ty.sz63) (aI Ty.by63 Ty.ag63)) (aI (aI Ty.zr63 Ty.sz67) (aI Ty.by67 (aI Ty.ag67 Ty.zr67)))) (aI (aI (aI Ty.sz72 Ty.by72) (aI Ty.ag72 Ty.zr72)) (aI (aI Ty.un72 Ty.sz74) (aI Ty.by74 (aI Ty.ag74 Ty.zr74))))) (aI (aI (aI (aI Ty.fl74_0 Ty.pl74_0) (aI Ty.fl74_1 Ty.pl74_1)) (aI (aI Ty.sz103 Ty.by103) (aI Ty.ag103 (aI Ty.zr103 Ty.fl103_0)))) (aI (aI (aI Ty.pl103_0 Ty.fl103_1) (aI Ty.pl103_1 Ty.eq28)) (aI (aI Ty.eq31 Ty.eq103) (aI Ty.cb20 (aI Ty.cb27 Ty.cb28))))))))
theorem graph_raw (x : E) (hf : Fit x) (hb : depthE x ≤ big) : Ok Tryz.prog 13 [vE x] [] fun v bs rs => (v = .tup [vG (graphC x), vint (shapeC x)] ∧ bs = [] ∧ rs = []) ∨
    (shapeC x = 0 ∧ ∃ g c rest, v = .tup [.agg [slN g (lowE [] x).1.length c], vint 0] ∧ (lowE [] x).1.length ≤ c ∧ bs = [(g, bN (lowE [] x).1 rest)] ∧ rs = []) := by
  have hsh := shape_ok x hf hb
  have hxe := cE_eq x
  rw [vE, hxe] at hsh ⊢
  refine Ok.of_ex Ty.mixed Tryz.func13 rfl (by simp [Tryz.ntmps13]) (by kernel_rfl) fun F w0 I0 => ?_
  simp only [↓rA, rB]
  refine fun b1 h1 => ?_; replace h1 := newb h1; try simp only [Nb] at h1
  simp only [↓rA, rB, tbLK0]
  refine fun b2 h2 => ?_; replace h2 := newb h2; try simp only [Nb] at h2
  simp only [↓rA, rB, Nat.reduceAdd, Nat.reduceEqDiff, tbLK0, h2]
  refine OkF_of _ hsh ?_
  by_cases e : shapeC x = 0
  case neg =>
    simp only [↓rA, rB, Nat.reduceEqDiff, tbLK0, Tryz.results13, e]
    have hg : graphC x = [] := by rw [graphC, if_neg e]
    exact ⟨_, [], [], leTup (.cons (leAgg (.cons (Le.nil 23) .nil)) (.cons (Le.refl _) .nil)), List.nil_sublist _, List.nil_sublist _, by rw [hg]; rfl, rfl, rfl⟩
  obtain ⟨p1, p2, p3⟩ := shape_parts e
  simp only [↓rA, rB, Nat.reduceAdd, tbLK0, e]
  refine fun b14 h14 => ?_; replace h14 := newb h14; try simp only [Nb] at h14
  simp only [↓rA, rB, tbLK0]
  refine fun b5 h5 => ?_; replace h5 := newb h5; try simp only [Nb] at h5
  simp only [↓rA, rB, Nat.reduceEqDiff, tbLK0]
  refine fun b6 h6 => ?_; replace h6 := newb h6; try simp only [Nb] at h6
  simp only [↓rA, rB, Nat.reduceAdd, Nat.reduceEqDiff, tbLK0, h2, h14, h5, h6]
  have hw := walk_ok x hf (proper_agg2 x false p3) b5 b6 b14 h6.1 [] [(b14, .c [nilS, fnN])] (.inl ⟨rfl, rfl⟩) (by simp only [List.length_nil]; omega)
  rw [vE, hxe] at hw
  refine OkF_withN _ [_, _] (List.Perm.refl _) hw ?_
  rintro v bs rs ⟨rfl, ⟨bs1, rfl, hs⟩, rfl⟩ hN
  rcases hs with ⟨hn, rfl⟩ | ⟨g, c, rest, hne, hsg, hc, hr, rfl⟩
  · simp only [↓rA, rB, Nat.reduceEqDiff, tbLK0, Tryz.results13, h14, h5, h6]
    have hg : graphC x = [] := by rw [graphC, if_pos e, hn]
    exact ⟨_, [], [], leTup (.cons (leAgg (.cons (Le.nil 23) .nil)) (.cons (Le.refl _) .nil)), List.nil_sublist _, List.nil_sublist _, .inl ⟨by rw [hg, e]; rfl, rfl, rfl⟩⟩
  · simp only [List.cons_append, List.nil_append, List.map_cons, List.map_nil, List.nodup_cons, List.mem_cons, List.not_mem_nil, or_false, not_or, List.nodup_nil, not_false_eq_true, and_true] at hN
    have n2 : g ≠ b2 ∧ b2 ≠ g := ⟨hN.2.2.1.2.1, fun e => hN.2.2.1.2.1 e.symm⟩
    simp only [↓rA, rB, Nat.reduceEqDiff, tbLK0, Tryz.results13, h14, h5, h6, hsg, n2]
    exact ⟨_, [_], [], Le.refl _, List.Sublist.cons _ (List.Sublist.cons _ (List.Sublist.cons_cons _ (List.nil_sublist _))), List.nil_sublist _, .inr ⟨e, g, c, rest, rfl, hc, rfl, rfl⟩⟩
theorem graph_ok (x : E) (hf : Fit x) (hb : depthE x ≤ big) : OkP Tryz.prog 13 [vE x] (.tup [vG (graphC x), vint (shapeC x)]) := by
  refine Ok.norows' (Q := fun v bs rs => bs = [] ∧ rs = [] ∧ (v = .tup [vG (graphC x), vint (shapeC x)] ∨ ∃ y, v = .tup [.agg [.list (some y) 23 ((graphC x).map cNd)], vint (shapeC x)])) (Ok.freeze (graph_raw x hf hb) fun v bs rs h => ?_) fun v bs rs h => ?_
  · rcases h with ⟨rfl, rfl, rfl⟩ | ⟨e, g, c, rest, rfl, hc, rfl, rfl⟩
    · exact .inl ⟨rfl, rfl, .inl rfl⟩
    · have hg : graphC x = (lowE [] x).1 := by rw [graphC, if_pos e]
      refine .inr ⟨g, (lowE [] x).1.length, c, 23, _, (lowE [] x).1.map cNd, [], .tup [.agg [.list (some (.slice (some ⟨g, 0, none⟩) (lowE [] x).1.length c)) 23 ((lowE [] x).1.map cNd)], vint 0], List.Perm.refl _, ⟨List.take_left' (nds_len _), fun e he => by obtain ⟨n, _, rfl⟩ := List.mem_map.1 he; rfl, by simp, hc⟩, .tup (.cons (.agg (.cons .here .nil)) (.cons (.same _) .nil)), rfl, rfl, .inr ⟨.slice (some ⟨g, 0, none⟩) (lowE [] x).1.length c, ?_⟩⟩
      rw [hg, e]
  · obtain ⟨rfl, rfl, rfl | ⟨y, rfl⟩⟩ := h
    · exact ⟨_, [], [], Le.refl _, List.nil_sublist _, List.nil_sublist _, rfl, rfl, rfl⟩
    · exact ⟨_, [], [], leTup (.cons (leAgg (.cons (Le.list _ _ _) .nil)) (.cons (Le.refl _) .nil)), List.nil_sublist _, List.nil_sublist _, rfl, rfl, rfl⟩
end Go.Proofs.YtphkmlogjgeipaaGreatDoor

/- Contracts of lowering, part l: catalogs; what an expression directly uses. -/
set_option linter.unusedSimpArgs false
set_option maxRecDepth 100000
-- @call 70
namespace Go.Lo
open Go.VL Go.Ar
structure Typ where
  kind : Int
  unit : List Fac
  of : Str
structure Fld where
  name : Str
  typ : Typ
structure Tab where
  name : Str
  entity : Str
  fields : List Fld
  keep : Int
structure Ftr where
  name : Str
  entity : Str
  typ : Typ
  body : E
  version : Int
structure Cat where
  tables : List Tab
  features : List Ftr
  drafts : List Ftr
  past : List Ftr
abbrev cFld (f : Fld) : List V := [vstr f.name, vint f.typ.kind, vFacs f.typ.unit, vstr f.typ.of]
abbrev cTab (t : Tab) : List V := [vstr t.name, vstr t.entity, .list none 4 (t.fields.map cFld), vint t.keep]
/-- A feature's cells; h, a: those of its body. -/
abbrev cF (f : Ftr) (h : Hd) (a : V) : List V := [vstr f.name, vstr f.entity, vint f.typ.kind, vFacs f.typ.unit, vstr f.typ.of, vint h.kind, vstr h.op, vstr h.name, vstr h.table, vint h.val.kind, vint h.val.n, vstr h.val.s, vFacs h.unit, vint h.param, vint h.wk, vint h.ws, a, vint f.version]
def cFtr (f : Ftr) : List V := cF f f.body.hd (vEs f.body.args)
theorem cFtr_eq (f : Ftr) : cFtr f = cF f f.body.hd (vEs f.body.args) := rfl
abbrev vFtrs (l : List Ftr) : V := .list none 18 (l.map cFtr)
abbrev vTabs (l : List Tab) : V := .list none 4 (l.map cTab)
abbrev cCat (c : Cat) : List V := [vTabs c.tables, vFtrs c.features, vFtrs c.drafts, vFtrs c.past]
abbrev vCat (c : Cat) : V := .agg (cCat c)

/-- A set of strings, in the order in which they came. -/
def insS (l : List Str) (s : Str) : List Str := if memS' l s = true then l else l ++ [s]
where memS' (l : List Str) (s : Str) : Bool := l.any fun x => decide (x = s)
mutual
def dirE : E → List Str × List Str → List Str × List Str
  | .mk h l, p => dirEs l (if h.kind = 3 then (insS p.1 h.name, p.2) else if h.kind = 4 then (insS p.1 h.name, p.2) else if h.kind = 5 then (p.1, insS p.2 h.table) else p)
def dirEs : List E → List Str × List Str → List Str × List Str
  | [], p => p
  | x :: r, p => dirEs r (dirE x p)
end
theorem dirE_mk (h : Hd) (l : List E) (p : List Str × List Str) : dirE (.mk h l) p = dirEs l (if h.kind = 3 then (insS p.1 h.name, p.2) else if h.kind = 4 then (insS p.1 h.name, p.2) else if h.kind = 5 then (p.1, insS p.2 h.table) else p) := by rw [dirE]
theorem dirEs_append : ∀ (l m : List E) (p : List Str × List Str), dirEs (l ++ m) p = dirEs m (dirEs l p)
  | [], m, p => rfl
  | x :: r, m, p => by simp only [List.cons_append, dirEs, dirEs_append r m]
/-- The entries of a set's map. -/
def entS : Nat → List Str → List Ent
  | _, [] => []
  | i, s :: r => (i, .string s, vbool true) :: entS (i + 1) r
theorem entS_append : ∀ (i : Nat) (l : List Str) (s : Str), entS i (l ++ [s]) = entS i l ++ [(i + l.length, .string s, vbool true)]
  | i, [], s => rfl
  | i, x :: r, s => by simp only [List.cons_append, entS, entS_append (i + 1) r s, List.length_cons, show i + 1 + r.length = i + (r.length + 1) by omega]
abbrev mS (l : List Str) : B := .m ([.s], false) (entS 0 l) l.length
theorem find_entS : ∀ (i : Nat) (l : List Str) (s : Str), findM (entS i l) (.string s) = if insS.memS' l s = true then some (vbool true) else none
  | i, [], s => rfl
  | i, x :: r, s => by
    have ih := find_entS (i + 1) r s
    have hk : keq (.string s) (.string x) = decide (x = s) := by
      simp only [keq, Value.cells]
      simp [veqL, veq, eq_comm]
    unfold findM at ih ⊢
    simp only [entS, List.find?_cons, hk, insS.memS', List.any_cons] at ih ⊢
    by_cases e : x = s
    · simp [e]
    · simp only [decide_eq_false e, Bool.false_or]
      exact ih
theorem mod_entS : ∀ (i : Nat) (l : List Str) (s : Str), modM (.string s) (vbool true) (entS i l) = entS i l
  | i, [], s => rfl
  | i, x :: r, s => by
    have ih := mod_entS (i + 1) r s
    simp only [entS, modM, ih]
    split <;> rfl
end Go.Lo
namespace Go.Proofs.YtphkmlogjgeipaaGreatDoor
open Go.VL Go.Ar Go.Lo Go.Proofs.YtphkmlogjgeipaaGreatDoor

set_option linter.defProp false in
def tbLP0 := (aI (aI (aI (aI (aI (aI Ty.sz3 Ty.by3) (aI Ty.ag3 (aI Ty.zr3 Ty.un3))) (aI (aI Ty.sz4 Ty.by4) (aI Ty.ag4 (aI Ty.zr4 Ty.un4)))) (aI (aI (aI Ty.sz9 Ty.by9) (aI Ty.ag9 (aI Ty.zr9 Ty.un9))) (aI (aI Ty.sz28 (aI Ty.by28 Ty.ag28)) (aI Ty.zr28 (aI Ty.fl28_0 Ty.pl28_0))))) (aI (aI (aI (aI Ty.fl28_1 Ty.pl28_1) (aI Ty.fl28_2 (aI Ty.pl28_2 Ty.sz29))) (aI (aI Ty.by29 Ty.ag29) (aI Ty.zr29 (aI Ty.un29 Ty.sz31)))) (aI (aI (aI Ty.by31 Ty.ag31) (aI Ty.zr31 (aI Ty.fl31_0 Ty.pl31_0))) (aI (aI Ty.fl31_1 (aI Ty.pl31_1 Ty.sz32)) (aI Ty.by32 (aI Ty.ag32 Ty.zr32)))))) (aI (aI (aI (aI (aI Ty.un32 Ty.sz34) (aI Ty.by34 (aI Ty.ag34 Ty.zr34))) (aI (aI Ty.fl34_0 Ty.pl34_0) (aI Ty.fl34_1 (aI Ty.pl34_1 Ty.fl34_2)))) (aI (aI (aI Ty.pl34_2 Ty.fl34_3) (aI Ty.pl34_3 (aI Ty.fl34_4 Ty.pl34_4))) (aI (aI Ty.fl34_5 (aI Ty.pl34_5 Ty.fl34_6)) (aI Ty.pl34_6 (aI Ty.fl34_7 Ty.pl34_7))))) (aI (aI (aI (aI Ty.fl34_8 Ty.pl34_8) (aI Ty.sz95 (aI Ty.by95 Ty.ag95))) (aI (aI Ty.zr95 Ty.un95) (aI Ty.sz103 (aI Ty.by103 Ty.ag103)))) (aI (aI (aI Ty.zr103 Ty.fl103_0) (aI Ty.pl103_0 (aI Ty.fl103_1 Ty.pl103_1))) (aI (aI Ty.eq28 (aI Ty.eq31 Ty.eq103)) (aI Ty.mp95 (aI Ty.cb50 Ty.cb70)))))))
theorem direct_ok : ∀ (x : E), Fit x → ∀ (p : List Str × List Str) (b1 b2 : Nat) (hb : b1 ≠ b2 ∧ b2 ≠ b1), Ok Tryz.prog 50 [vE x, .lit (.map (some b1)), .lit (.map (some b2))] [(b1, mS p.1), (b2, mS p.2)] fun v bs rs => v = .tup [] ∧ bs = [(b1, mS (dirE x p).1), (b2, mS (dirE x p).2)] ∧ rs = [] := by
  intro x
  induction x using E.ind with
  | h hd l ih =>
  intro hf p b1 b2 hb
  have hl := hf.len
  have ha := hf.args
  simp only [E.args, big] at hl ha
  rw [vE, cE_mk, dirE_mk]
  generalize hq : (if hd.kind = 3 then (insS p.1 hd.name, p.2) else if hd.kind = 4 then (insS p.1 hd.name, p.2) else if hd.kind = 5 then (p.1, insS p.2 hd.table) else p) = q
  refine Ok.of_ex Ty.mixed Tryz.func50 rfl (by simp [Tryz.ntmps50]) (by kernel_rfl) fun F w0 I0 => ?_
  simp only [↓rA, rB]
  refine fun b3 h3 => ?_; replace h3 := newb h3; try simp only [Nb] at h3
  simp only [↓EX_seq, ↓EX_region, ↓EX_ops_nil, ↓EX_plain, ↓ST_load, ↓ST_fieldAddr, ↓loadK_eq, ↓fieldAddrK_eq, ↓loadD_one, Todo_eq, put_eq, put_boxes, addBox_boxes, S0_boxes, ev_tmp, getB_same, onSome_some, onHead_cons, shiftP_ptr, atP_ptr, posK_succ, List.drop_zero, List.toList_toArray, Nat.add_zero, tbLP0, Tryz.results50]
  refine EX_cut (fun S => S.boxes = [(b3, .c (cH hd (vEs l))), (b1, mS q.1), (b2, mS q.2)] ∧ S.rows = [] ∧ S.σ 1 = .lit (.map (some b1)) ∧ S.σ 2 = .lit (.map (some b2)) ∧ S.σ 3 = ptr b3) ?_ ?_
  · have hname : ∀ (k : Str) (m : List Str), findM (entS 0 m) (.string k) = none → mS (insS m k) = .m ([.s], false) (entS 0 m ++ [(m.length, .string k, vbool true)]) (m.length + 1) := fun k m h => by
      rw [find_entS] at h
      have : insS.memS' m k = false := by
        cases e : insS.memS' m k
        · rfl
        · rw [if_pos e] at h; cases h
      unfold mS insS
      rw [if_neg (by rw [this]; decide), entS_append, Nat.zero_add, List.length_append]
      rfl
    have hold : ∀ (k : Str) (m : List Str) (v : V), findM (entS 0 m) (.string k) = some v → insS m k = m := fun k m v h => by
      rw [find_entS] at h
      unfold insS
      split
      · rfl
      · rename_i e; rw [if_neg e] at h; cases h
    by_cases e3 : hd.kind = 3
    · rw [if_pos e3] at hq
      subst hq
      cases hfm : findM (entS 0 p.1) (.string hd.name) with
      | none =>
        rw [hname _ _ hfm]
        simp only [↓rA, rB, Nat.reduceAdd, Nat.reduceEqDiff, tbLP0, h3, e3, hfm]
      | some v =>
        rw [hold _ _ _ hfm]
        simp only [↓rA, rB, Nat.reduceAdd, Nat.reduceEqDiff, tbLP0, h3, e3, hfm, mod_entS]
    rw [if_neg e3] at hq
    by_cases e4 : hd.kind = 4
    · rw [if_pos e4] at hq
      subst hq
      cases hfm : findM (entS 0 p.1) (.string hd.name) with
      | none =>
        rw [hname _ _ hfm]
        simp only [↓rA, rB, Int.reduceEq, Nat.reduceAdd, Nat.reduceEqDiff, tbLP0, h3, e4, hfm]
      | some v =>
        rw [hold _ _ _ hfm]
        simp only [↓rA, rB, Int.reduceEq, Nat.reduceAdd, Nat.reduceEqDiff, tbLP0, h3, e4, hfm, mod_entS]
    rw [if_neg e4] at hq
    by_cases e5 : hd.kind = 5
    · rw [if_pos e5] at hq
      subst hq
      cases hfm : findM (entS 0 p.2) (.string hd.table) with
      | none =>
        rw [hname _ _ hfm]
        simp only [↓rA, rB, Int.reduceEq, Nat.reduceAdd, Nat.reduceEqDiff, tbLP0, h3, hb, e5, hfm]
      | some v =>
        rw [hold _ _ _ hfm]
        simp only [↓rA, rB, Int.reduceEq, Nat.reduceAdd, Nat.reduceEqDiff, tbLP0, h3, hb, e5, hfm, mod_entS]
    rw [if_neg e5] at hq
    subst hq
    simp only [↓rA, rB, Nat.reduceEqDiff, e3, e4, e5]
  · rintro S ⟨gb, gr, g1, g2, g3⟩
    simp only [↓rA, rB, tbLP0, gb, g3]
    refine EX_for Ty.mixed (by kernel_rfl) l.length (fun i S => S.boxes = [(b3, .c (cH hd (vEs l))), (b1, mS (dirEs (l.take i) q).1), (b2, mS (dirEs (l.take i) q).2)] ∧ S.rows = [] ∧ S.σ 1 = .lit (.map (some b1)) ∧ S.σ 2 = .lit (.map (some b2)) ∧ S.σ 22 = vEs l ∧ S.σ 23 = vint l.length ∧ S.σ 24 = vint i) ⟨0, ?_⟩ (fun i S hi ⟨gb, gr, g1, g2, g22, g23, g24⟩ => ?_) (fun S ⟨gb, gr, g1, g2, g22, g23, g24⟩ => ?_)
    · simp only [rB, Nat.reduceEqDiff, gb, gr, g1, g2, List.length_map, dirEs]
    · have hwi := wrap_succ (i := i) (N := l.length) hi (by omega)
      have hx := List.getElem_mem hi
      simp only [↓rA, rB, Nat.reduceAdd, Nat.reduceEqDiff, tbLP0, gb, gr, g22, g23, g24, Int.ofNat_lt, hi, List.length_map, getD_map _ _ _ hi, cE_eq]
      refine fun b7 h7 => ?_; replace h7 := newb h7; try simp only [Nb] at h7
      simp only [↓rA, rB, Nat.reduceAdd, Nat.reduceEqDiff, tbLP0, gb, g1, g2, getD_map _ _ _ hi]
      have hc := ih l[i] hx (ha _ hx) (dirEs (l.take i) q) b1 b2 hb
      rw [vE, cE_eq] at hc
      refine OkF_with _ [] (List.Perm.of_eq (List.append_nil _).symm) (Ok.frame [_, _] hc) ?_
      rintro v bs rs ⟨bs1, rfl, _, rfl, rfl, rfl⟩
      simp only [↓rA, rB, Nat.reduceEqDiff, gr, g1, g2, g22, g23, g24, hwi]
      refine ⟨1, ?_⟩
      rw [List.take_succ_eq_append_getElem hi, dirEs_append]
      rfl
    · rw [List.take_of_length_le (Nat.le_refl _)] at gb
      simp only [↓rA, rB, gb, gr, g23, g24, Int.ofNat_lt, Nat.lt_irrefl]
      exact ⟨_, [_, _], [], Le.refl _, List.Sublist.cons _ (List.Sublist.refl _), List.nil_sublist _, rfl, rfl, rfl⟩

/-! ### A feature by its name -/
def findF (l : List Ftr) (s : Str) : Option Ftr := l.find? fun f => decide (f.name = s)
set_option linter.defProp false in
def tbLP1 := (aI (aI (aI (aI (aI (aI Ty.sz3 (aI Ty.by3 Ty.ag3)) (aI Ty.zr3 (aI Ty.un3 Ty.sz4))) (aI (aI Ty.by4 (aI Ty.ag4 Ty.zr4)) (aI Ty.un4 (aI Ty.sz9 Ty.by9)))) (aI (aI (aI Ty.ag9 (aI Ty.zr9 Ty.un9)) (aI Ty.sz28 (aI Ty.by28 Ty.ag28))) (aI (aI Ty.zr28 (aI Ty.fl28_0 Ty.pl28_0)) (aI (aI Ty.fl28_1 Ty.pl28_1) (aI Ty.fl28_2 Ty.pl28_2))))) (aI (aI (aI (aI Ty.sz29 (aI Ty.by29 Ty.ag29)) (aI Ty.zr29 (aI Ty.un29 Ty.sz31))) (aI (aI Ty.by31 (aI Ty.ag31 Ty.zr31)) (aI Ty.fl31_0 (aI Ty.pl31_0 Ty.fl31_1)))) (aI (aI (aI Ty.pl31_1 (aI Ty.sz32 Ty.by32)) (aI Ty.ag32 (aI Ty.zr32 Ty.un32))) (aI (aI Ty.sz34 (aI Ty.by34 Ty.ag34)) (aI (aI Ty.zr34 Ty.fl34_0) (aI Ty.pl34_0 Ty.fl34_1)))))) (aI (aI (aI (aI (aI Ty.pl34_1 (aI Ty.fl34_2 Ty.pl34_2)) (aI Ty.fl34_3 (aI Ty.pl34_3 Ty.fl34_4))) (aI (aI Ty.pl34_4 (aI Ty.fl34_5 Ty.pl34_5)) (aI Ty.fl34_6 (aI Ty.pl34_6 Ty.fl34_7)))) (aI (aI (aI Ty.pl34_7 (aI Ty.fl34_8 Ty.pl34_8)) (aI Ty.sz49 (aI Ty.by49 Ty.ag49))) (aI (aI Ty.zr49 (aI Ty.fl49_0 Ty.pl49_0)) (aI (aI Ty.fl49_1 Ty.pl49_1) (aI Ty.fl49_2 Ty.pl49_2))))) (aI (aI (aI (aI Ty.sz51 (aI Ty.by51 Ty.ag51)) (aI Ty.zr51 (aI Ty.fl51_0 Ty.pl51_0))) (aI (aI Ty.fl51_1 (aI Ty.pl51_1 Ty.fl51_2)) (aI (aI Ty.pl51_2 Ty.fl51_3) (aI Ty.pl51_3 Ty.fl51_4)))) (aI (aI (aI Ty.pl51_4 (aI Ty.sz103 Ty.by103)) (aI Ty.ag103 (aI Ty.zr103 Ty.fl103_0))) (aI (aI Ty.pl103_0 (aI Ty.fl103_1 Ty.pl103_1)) (aI (aI Ty.eq28 Ty.eq31) (aI Ty.eq103 Ty.cb70)))))))
theorem find1_ok (f : Ftr) (s : Str) (b : Nat) : Ok Tryz.prog 70 [.agg (cFtr f), ptr b] [(b, .c [vstr s])] fun v bs rs => v = vbool (decide (f.name = s)) ∧ bs = [(b, .c [vstr s])] ∧ rs = [] := by
  simp only [cFtr_eq]
  refine Ok.of_ex Ty.mixed Tryz.func70 rfl (by simp [Tryz.ntmps70]) (by kernel_rfl) fun F w0 I0 => ?_
  simp only [↓rA, rB]
  refine fun b2 h2 => ?_; replace h2 := newb h2; try simp only [Nb] at h2
  by_cases e : f.name = s
  · simp only [↓rA, rB, Nat.reduceEqDiff, tbLP1, Tryz.results70, h2, e]
    exact ⟨_, [_], [], Le.refl _, List.Sublist.cons _ (List.Sublist.refl _), List.nil_sublist _, rfl, rfl, rfl⟩
  · simp only [↓rA, rB, Nat.reduceEqDiff, tbLP1, Tryz.results70, h2, e]
    exact ⟨_, [_], [], Le.refl _, List.Sublist.cons _ (List.Sublist.refl _), List.nil_sublist _, rfl, rfl, rfl⟩
abbrev fnF (b : Nat) : V := .lit (.func (.func 70) #[] #[.pointer (some ⟨b, 0, none⟩)])
set_option linter.defProp false in
def tbLP2 := (aI (aI (aI (aI (aI (aI Ty.sz3 (aI Ty.by3 Ty.ag3)) (aI Ty.zr3 (aI Ty.un3 Ty.sz4))) (aI (aI Ty.by4 (aI Ty.ag4 Ty.zr4)) (aI (aI Ty.un4 Ty.sz9) (aI Ty.by9 Ty.ag9)))) (aI (aI (aI Ty.zr9 (aI Ty.un9 Ty.sz28)) (aI (aI Ty.by28 Ty.ag28) (aI Ty.zr28 Ty.fl28_0))) (aI (aI Ty.pl28_0 (aI Ty.fl28_1 Ty.pl28_1)) (aI (aI Ty.fl28_2 Ty.pl28_2) (aI Ty.sz29 Ty.by29))))) (aI (aI (aI (aI Ty.ag29 (aI Ty.zr29 Ty.un29)) (aI (aI Ty.sz31 Ty.by31) (aI Ty.ag31 Ty.zr31))) (aI (aI Ty.fl31_0 (aI Ty.pl31_0 Ty.fl31_1)) (aI (aI Ty.pl31_1 Ty.sz32) (aI Ty.by32 Ty.ag32)))) (aI (aI (aI Ty.zr32 (aI Ty.un32 Ty.sz34)) (aI (aI Ty.by34 Ty.ag34) (aI Ty.zr34 Ty.fl34_0))) (aI (aI Ty.pl34_0 (aI Ty.fl34_1 Ty.pl34_1)) (aI (aI Ty.fl34_2 Ty.pl34_2) (aI Ty.fl34_3 Ty.pl34_3)))))) (aI (aI (aI (aI (aI Ty.fl34_4 (aI Ty.pl34_4 Ty.fl34_5)) (aI Ty.pl34_5 (aI Ty.fl34_6 Ty.pl34_6))) (aI (aI Ty.fl34_7 (aI Ty.pl34_7 Ty.fl34_8)) (aI (aI Ty.pl34_8 Ty.sz49) (aI Ty.by49 Ty.ag49)))) (aI (aI (aI Ty.zr49 (aI Ty.fl49_0 Ty.pl49_0)) (aI (aI Ty.fl49_1 Ty.pl49_1) (aI Ty.fl49_2 Ty.pl49_2))) (aI (aI Ty.sz51 (aI Ty.by51 Ty.ag51)) (aI (aI Ty.zr51 Ty.fl51_0) (aI Ty.pl51_0 Ty.fl51_1))))) (aI (aI (aI (aI Ty.pl51_1 (aI Ty.fl51_2 Ty.pl51_2)) (aI (aI Ty.fl51_3 Ty.pl51_3) (aI Ty.fl51_4 Ty.pl51_4))) (aI (aI Ty.sz58 (aI Ty.by58 Ty.ag58)) (aI (aI Ty.zr58 Ty.un58) (aI Ty.sz103 Ty.by103)))) (aI (aI (aI Ty.ag103 (aI Ty.zr103 Ty.fl103_0)) (aI (aI Ty.pl103_0 Ty.fl103_1) (aI Ty.pl103_1 Ty.sz112))) (aI (aI Ty.by112 (aI Ty.ag112 Ty.zr112)) (aI (aI Ty.eq28 Ty.eq31) (aI Ty.eq103 Ty.cb70)))))))
theorem indexF_ok (l : List Ftr) (s : Str) (b : Nat) (hl : l.length ≤ big) : Ok Tryz.prog 69 [vFtrs l, fnF b] [(b, .c [vstr s])] fun v bs rs => bs = [(b, .c [vstr s])] ∧ rs = [] ∧
    ((findF l s = none ∧ v = vint (-1)) ∨ ∃ i, ∃ h : i < l.length, findF l s = some l[i] ∧ v = vint i) := by
  unfold big at hl
  refine Ok.of_ex Ty.mixed Tryz.func69 rfl (by simp [Tryz.ntmps69]) (by kernel_rfl) fun F w0 I0 => ?_
  simp only [↓rA, rB, reduceCtorEq, tbLP2, Tryz.results69]
  refine EX_for Ty.mixed (by kernel_rfl) l.length (fun i S => findF (l.take i) s = none ∧ S.boxes = [(b, .c [vstr s])] ∧ S.rows = [] ∧ S.σ 0 = vFtrs l ∧ S.σ 1 = fnF b ∧ S.σ 7 = vint l.length ∧ S.σ 8 = vint i) ⟨0, ?_⟩ (fun i S hi ⟨hf, gb, gr, g0, g1, g7, g8⟩ => ?_) (fun S ⟨hf, gb, gr, g0, g1, g7, g8⟩ => ?_)
  · simp only [rB, Nat.reduceEqDiff, reduceCtorEq, List.length_map]
    try exact rfl
  · have hwi := wrap_succ (i := i) (N := l.length) hi (by omega)
    have hap : findF l s = (findF (l.take i) s).or (findF (l.drop i) s) := by
      unfold findF
      conv => lhs; rw [← List.take_append_drop i l]
      rw [List.find?_append]
    simp only [↓rA, rB, Nat.reduceAdd, Nat.reduceEqDiff, reduceCtorEq, tbLP2, gb, g0, g1, g7, g8, Int.ofNat_lt, hi, List.length_map, getD_map _ _ _ hi, cFtr_eq]
    have h1 := find1_ok l[i] s b
    rw [cFtr_eq] at h1
    refine OkF_with _ [] (List.Perm.refl _) h1 ?_
    rintro v bs rs ⟨rfl, rfl, rfl⟩
    by_cases e : l[i].name = s
    · simp only [↓rA, rB, Nat.reduceEqDiff, gr, decide_eq_true e]
      exact ⟨_, _, [], Le.refl _, List.Sublist.refl _, List.nil_sublist _, rfl, rfl, .inr ⟨i, hi, by rw [hap, hf, List.drop_eq_getElem_cons hi]; simp only [Option.none_or, findF, List.find?_cons, decide_eq_true e], rfl⟩⟩
    · simp only [↓rA, rB, Nat.reduceEqDiff, reduceCtorEq, gr, g0, g1, g7, g8, decide_eq_false e, hwi]
      refine ⟨0, ?_, rfl⟩
      have : findF (l.take (i + 1)) s = (findF (l.take i) s).or (findF [l[i]] s) := by
        unfold findF
        rw [List.take_succ_eq_append_getElem hi, List.find?_append]
      rw [this, hf]
      simp [findF, e]
  · simp only [↓rA, rB, gb, gr, g7, g8, Int.ofNat_lt, Nat.lt_irrefl]
    rw [List.take_of_length_le (Nat.le_refl _)] at hf
    exact ⟨_, _, [], Le.refl _, List.Sublist.refl _, List.nil_sublist _, rfl, rfl, .inl ⟨hf, rfl⟩⟩
abbrev ftr0 : Ftr := ⟨es0, es0, ⟨0, [], es0⟩, exp0, 0⟩
abbrev vFind (o : Option Ftr) : V := match o with | some f => .tup [.agg (cFtr f), vbool true] | none => .tup [.agg (cFtr ftr0), vbool false]
set_option linter.defProp false in
def tbLP3 := (aI (aI (aI (aI (aI (aI Ty.sz3 (aI Ty.by3 Ty.ag3)) (aI Ty.zr3 (aI Ty.un3 Ty.sz4))) (aI (aI Ty.by4 (aI Ty.ag4 Ty.zr4)) (aI (aI Ty.un4 Ty.sz9) (aI Ty.by9 Ty.ag9)))) (aI (aI (aI Ty.zr9 (aI Ty.un9 Ty.sz28)) (aI (aI Ty.by28 Ty.ag28) (aI Ty.zr28 Ty.fl28_0))) (aI (aI Ty.pl28_0 (aI Ty.fl28_1 Ty.pl28_1)) (aI (aI Ty.fl28_2 Ty.pl28_2) (aI Ty.sz29 Ty.by29))))) (aI (aI (aI (aI Ty.ag29 (aI Ty.zr29 Ty.un29)) (aI (aI Ty.sz31 Ty.by31) (aI Ty.ag31 Ty.zr31))) (aI (aI Ty.fl31_0 (aI Ty.pl31_0 Ty.fl31_1)) (aI (aI Ty.pl31_1 Ty.sz32) (aI Ty.by32 Ty.ag32)))) (aI (aI (aI Ty.zr32 (aI Ty.un32 Ty.sz34)) (aI (aI Ty.by34 Ty.ag34) (aI Ty.zr34 Ty.fl34_0))) (aI (aI Ty.pl34_0 (aI Ty.fl34_1 Ty.pl34_1)) (aI (aI Ty.fl34_2 Ty.pl34_2) (aI Ty.fl34_3 Ty.pl34_3)))))) (aI (aI (aI (aI (aI Ty.fl34_4 (aI Ty.pl34_4 Ty.fl34_5)) (aI (aI Ty.pl34_5 Ty.fl34_6) (aI Ty.pl34_6 Ty.fl34_7))) (aI (aI Ty.pl34_7 (aI Ty.fl34_8 Ty.pl34_8)) (aI (aI Ty.sz49 Ty.by49) (aI Ty.ag49 Ty.zr49)))) (aI (aI (aI Ty.fl49_0 (aI Ty.pl49_0 Ty.fl49_1)) (aI (aI Ty.pl49_1 Ty.fl49_2) (aI Ty.pl49_2 Ty.sz51))) (aI (aI Ty.by51 (aI Ty.ag51 Ty.zr51)) (aI (aI Ty.fl51_0 Ty.pl51_0) (aI Ty.fl51_1 Ty.pl51_1))))) (aI (aI (aI (aI Ty.fl51_2 (aI Ty.pl51_2 Ty.fl51_3)) (aI (aI Ty.pl51_3 Ty.fl51_4) (aI Ty.pl51_4 Ty.sz58))) (aI (aI Ty.by58 (aI Ty.ag58 Ty.zr58)) (aI (aI Ty.un58 Ty.sz103) (aI Ty.by103 Ty.ag103)))) (aI (aI (aI Ty.zr103 (aI Ty.fl103_0 Ty.pl103_0)) (aI (aI Ty.fl103_1 Ty.pl103_1) (aI Ty.sz112 Ty.by112))) (aI (aI Ty.ag112 (aI Ty.zr112 Ty.eq28)) (aI (aI Ty.eq31 Ty.eq103) (aI Ty.cb69 Ty.cb70)))))))
theorem find_ok (l : List Ftr) (s : Str) (hl : l.length ≤ big) : OkP Tryz.prog 53 [vFtrs l, vstr s] (vFind (findF l s)) := by
  have hl' := hl
  unfold big at hl'
  refine Ok.of_ex Ty.mixed Tryz.func53 rfl (by simp [Tryz.ntmps53]) (by kernel_rfl) fun F w0 I0 => ?_
  simp only [↓rA, rB]
  refine fun b3 h3 => ?_; replace h3 := newb h3; try simp only [Nb] at h3
  simp only [↓rA, rB, tbLP3]
  refine fun b4 h4 => ?_; replace h4 := newb h4; try simp only [Nb] at h4
  simp only [↓rA, rB, Nat.reduceEqDiff, reduceCtorEq, tbLP3]
  refine OkF_with [_] [_] (List.Perm.swap _ _ _) (indexF_ok l s b3 hl) ?_
  rintro v bs rs ⟨rfl, rfl, ⟨hn, rfl⟩ | ⟨i, hi, hs, rfl⟩⟩
  · rw [hn]
    simp only [↓rA, rB, Int.reduceLE, Nat.reduceAdd, Nat.reduceEqDiff, tbLP3, Tryz.results53, h4]
    exact ⟨_, [], [], leTup (.cons (leAgg (.cons (Le.refl _) (.cons (Le.refl _) (.cons (Le.refl _) (.cons (Le.nil 2) (.cons (Le.refl _) (.cons (Le.refl _) (.cons (Le.refl _) (.cons (Le.refl _) (.cons (Le.refl _) (.cons (Le.refl _) (.cons (Le.refl _) (.cons (Le.refl _) (.cons (Le.nil 2) (.cons (Le.refl _) (.cons (Le.refl _) (.cons (Le.refl _) (.cons (Le.nil 12) (.cons (Le.refl _) .nil))))))))))))))))))) (.cons (Le.refl _) .nil)), List.nil_sublist _, List.nil_sublist _, rfl, rfl, rfl⟩
  · rw [hs]
    have h0 : (0 : Int) ≤ (i : Int) := by omega
    simp only [↓rA, rB, Nat.reduceAdd, Nat.reduceEqDiff, reduceCtorEq, tbLP3, Tryz.results53, h4, h0, Int.ofNat_lt, hi, List.length_map, getD_map _ _ _ hi, cFtr_eq]
    exact ⟨_, [], [], Le.refl _, List.nil_sublist _, List.nil_sublist _, rfl, rfl, rfl⟩
set_option linter.defProp false in
def tbLP4 := (aI (aI (aI (aI (aI (aI (aI Ty.sz3 Ty.by3) (aI Ty.ag3 Ty.zr3)) (aI (aI Ty.un3 Ty.sz4) (aI Ty.by4 (aI Ty.ag4 Ty.zr4)))) (aI (aI (aI Ty.un4 Ty.sz9) (aI Ty.by9 (aI Ty.ag9 Ty.zr9))) (aI (aI Ty.un9 Ty.sz28) (aI Ty.by28 (aI Ty.ag28 Ty.zr28))))) (aI (aI (aI (aI Ty.fl28_0 Ty.pl28_0) (aI Ty.fl28_1 Ty.pl28_1)) (aI (aI Ty.fl28_2 Ty.pl28_2) (aI Ty.sz29 (aI Ty.by29 Ty.ag29)))) (aI (aI (aI Ty.zr29 Ty.un29) (aI Ty.sz31 (aI Ty.by31 Ty.ag31))) (aI (aI Ty.zr31 Ty.fl31_0) (aI Ty.pl31_0 (aI Ty.fl31_1 Ty.pl31_1)))))) (aI (aI (aI (aI (aI Ty.sz32 Ty.by32) (aI Ty.ag32 Ty.zr32)) (aI (aI Ty.un32 Ty.sz34) (aI Ty.by34 (aI Ty.ag34 Ty.zr34)))) (aI (aI (aI Ty.fl34_0 Ty.pl34_0) (aI Ty.fl34_1 (aI Ty.pl34_1 Ty.fl34_2))) (aI (aI Ty.pl34_2 Ty.fl34_3) (aI Ty.pl34_3 (aI Ty.fl34_4 Ty.pl34_4))))) (aI (aI (aI (aI Ty.fl34_5 Ty.pl34_5) (aI Ty.fl34_6 Ty.pl34_6)) (aI (aI Ty.fl34_7 Ty.pl34_7) (aI Ty.fl34_8 (aI Ty.pl34_8 Ty.sz49)))) (aI (aI (aI Ty.by49 Ty.ag49) (aI Ty.zr49 (aI Ty.fl49_0 Ty.pl49_0))) (aI (aI Ty.fl49_1 Ty.pl49_1) (aI Ty.fl49_2 (aI Ty.pl49_2 Ty.sz51))))))) (aI (aI (aI (aI (aI (aI Ty.by51 Ty.ag51) (aI Ty.zr51 Ty.fl51_0)) (aI (aI Ty.pl51_0 Ty.fl51_1) (aI Ty.pl51_1 (aI Ty.fl51_2 Ty.pl51_2)))) (aI (aI (aI Ty.fl51_3 Ty.pl51_3) (aI Ty.fl51_4 (aI Ty.pl51_4 Ty.sz53))) (aI (aI Ty.by53 Ty.ag53) (aI Ty.zr53 (aI Ty.fl53_0 Ty.pl53_0))))) (aI (aI (aI (aI Ty.fl53_1 Ty.pl53_1) (aI Ty.sz54 Ty.by54)) (aI (aI Ty.ag54 Ty.zr54) (aI Ty.un54 (aI Ty.sz56 Ty.by56)))) (aI (aI (aI Ty.ag56 Ty.zr56) (aI Ty.fl56_0 (aI Ty.pl56_0 Ty.fl56_1))) (aI (aI Ty.pl56_1 Ty.fl56_2) (aI Ty.pl56_2 (aI Ty.fl56_3 Ty.pl56_3)))))) (aI (aI (aI (aI (aI Ty.sz57 Ty.by57) (aI Ty.ag57 Ty.zr57)) (aI (aI Ty.un57 Ty.sz58) (aI Ty.by58 (aI Ty.ag58 Ty.zr58)))) (aI (aI (aI Ty.un58 Ty.sz60) (aI Ty.by60 (aI Ty.ag60 Ty.zr60))) (aI (aI Ty.fl60_0 Ty.pl60_0) (aI Ty.fl60_1 (aI Ty.pl60_1 Ty.fl60_2))))) (aI (aI (aI (aI Ty.pl60_2 Ty.fl60_3) (aI Ty.pl60_3 Ty.sz82)) (aI (aI Ty.by82 Ty.ag82) (aI Ty.sz103 (aI Ty.by103 Ty.ag103)))) (aI (aI (aI Ty.zr103 Ty.fl103_0) (aI Ty.pl103_0 (aI Ty.fl103_1 Ty.pl103_1))) (aI (aI Ty.eq28 Ty.eq31) (aI Ty.eq103 (aI Ty.cb53 Ty.cb70))))))))
theorem feature_ok (c : Cat) (s : Str) (hl : c.features.length ≤ big) : OkP Tryz.prog 35 [vCat c, vstr s] (vFind (findF c.features s)) := by
  have hq := find_ok c.features s hl
  refine Ok.of_ex Ty.mixed Tryz.func35 rfl (by simp [Tryz.ntmps35]) (by kernel_rfl) fun F w0 I0 => ?_
  simp only [↓rA, rB]
  refine fun b2 h2 => ?_; replace h2 := newb h2; try simp only [Nb] at h2
  simp only [↓rA, rB, tbLP4]
  refine fun b4 h4 => ?_; replace h4 := newb h4; try simp only [Nb] at h4
  simp only [↓rA, rB, Nat.reduceAdd, Nat.reduceEqDiff, tbLP4, h4]
  refine OkF_of _ hq ?_
  cases findF c.features s with
  | none =>
    simp only [vFind, cFtr_eq]
    simp only [↓rA, rB, Nat.reduceAdd, Nat.reduceEqDiff, tbLP4, Tryz.results35]
    exact ret_done rfl
  | some f =>
    simp only [vFind, cFtr_eq]
    simp only [↓rA, rB, Nat.reduceAdd, Nat.reduceEqDiff, tbLP4, Tryz.results35]
    exact ret_done rfl
end Go.Proofs.YtphkmlogjgeipaaGreatDoor

/- SlLaysN.n54, laid here (printed by lay.py). -/
namespace Go.Proofs
open Go.Shelf
def Tryz.sortS_ren : Go.Shelf.Ren := ⟨fun | 54 => 67 | 64 => 79 | 65 => 78 | 78 => 98 | 79 => 99 | 80 => 89 | 81 => 90 | 82 => 91 | 83 => 92 | 84 => 93 | 85 => 94 | 61 => 95 | 86 => 96 | 87 => 97 | 93 => 107 | 89 => 108 | 90 => 109 | 94 => 110 | 95 => 111 | 69 => 112 | 97 => 122 | n => n, fun | 25 => 78 | 26 => 9 | 3 => 3 | 51 => 122 | 0 => 0 | 67 => 137 | 69 => 139 | 4 => 4 | 61 => 131 | 60 => 130 | 44 => 113 | 5 => 5 | 9 => 9 | 75 => 143 | 79 => 147 | 83 => 152 | 84 => 153 | n => n, fun | n => n⟩
theorem Tryz.sortS : Go.Proofs.SlLaysN.n54 Tryz.prog Tryz.sortS_ren := {
  mixed := by kernel_rfl
  f54 := ⟨Tryz.f67.name, by decide, Tryz.func67.trans (congrArg some (by kernel_rfl))⟩
  f61 := ⟨Tryz.f95.name, by decide, Tryz.func95.trans (congrArg some (by kernel_rfl))⟩
  f64 := Tryz.func79.trans (congrArg some (by kernel_rfl))
  f65 := ⟨Tryz.f78.name, by decide, Tryz.func78.trans (congrArg some (by kernel_rfl))⟩
  f69 := ⟨Tryz.f112.name, by decide, Tryz.func112.trans (congrArg some (by kernel_rfl))⟩
  f78 := Tryz.func98.trans (congrArg some (by kernel_rfl))
  f79 := Tryz.func99.trans (congrArg some (by kernel_rfl))
  f80 := ⟨Tryz.f89.name, by decide, Tryz.func89.trans (congrArg some (by kernel_rfl))⟩
  f81 := ⟨Tryz.f90.name, by decide, Tryz.func90.trans (congrArg some (by kernel_rfl))⟩
  f82 := ⟨Tryz.f91.name, by decide, Tryz.func91.trans (congrArg some (by kernel_rfl))⟩
  f83 := ⟨Tryz.f92.name, by decide, Tryz.func92.trans (congrArg some (by kernel_rfl))⟩
  f84 := ⟨Tryz.f93.name, by decide, Tryz.func93.trans (congrArg some (by kernel_rfl))⟩
  f85 := ⟨Tryz.f94.name, by decide, Tryz.func94.trans (congrArg some (by kernel_rfl))⟩
  f86 := ⟨Tryz.f96.name, by decide, Tryz.func96.trans (congrArg some (by kernel_rfl))⟩
  f87 := ⟨Tryz.f97.name, by decide, Tryz.func97.trans (congrArg some (by kernel_rfl))⟩
  f89 := Tryz.func108.trans (congrArg some (by kernel_rfl))
  f90 := Tryz.func109.trans (congrArg some (by kernel_rfl))
  f93 := ⟨Tryz.f107.name, by decide, Tryz.func107.trans (congrArg some (by kernel_rfl))⟩
  f94 := ⟨Tryz.f110.name, by decide, Tryz.func110.trans (congrArg some (by kernel_rfl))⟩
  f95 := ⟨Tryz.f111.name, by decide, Tryz.func111.trans (congrArg some (by kernel_rfl))⟩
  f97 := ⟨Tryz.f122.name, by decide, Tryz.func122.trans (congrArg some (by kernel_rfl))⟩
  t0 := Tryz.underlying0
  a0 := Tryz.isAgg0
  z0 := Tryz.sizeOf0
  v0 := Tryz.zeroValue0
  t3 := Tryz.underlying3
  a3 := Tryz.isAgg3
  z3 := Tryz.sizeOf3
  v3 := Tryz.zeroValue3
  t4 := Tryz.underlying4
  a4 := Tryz.isAgg4
  z4 := Tryz.sizeOf4
  v4 := Tryz.zeroValue4
  t5 := Tryz.underlying5
  a5 := Tryz.isAgg5
  z5 := Tryz.sizeOf5
  v5 := Tryz.zeroValue5
  t9 := Tryz.underlying9
  a9 := Tryz.isAgg9
  z9 := Tryz.sizeOf9
  v9 := Tryz.zeroValue9
  t25 := Tryz.underlying78
  a25 := Tryz.isAgg78
  z25 := Tryz.sizeOf78
  v25 := Tryz.zeroValue78
  t26 := Tryz.underlying9
  a26 := Tryz.isAgg9
  z26 := Tryz.sizeOf9
  v26 := Tryz.zeroValue9
  t44 := Tryz.underlying113
  a44 := Tryz.isAgg113
  z44 := Tryz.sizeOf113
  v44 := Tryz.zeroValue113
  t51 := Tryz.underlying122
  a51 := Tryz.isAgg122
  z51 := Tryz.sizeOf122
  v51 := Tryz.zeroValue122
  t60 := Tryz.underlying130
  a60 := Tryz.isAgg130
  z60 := Tryz.sizeOf130
  v60 := Tryz.zeroValue130
  t61 := Tryz.underlying131
  a61 := Tryz.isAgg131
  z61 := Tryz.sizeOf131
  v61 := Tryz.zeroValue131
  t67 := Tryz.underlying137
  a67 := Tryz.isAgg137
  z67 := Tryz.sizeOf137
  v67 := Tryz.zeroValue137
  t69 := Tryz.underlying139
  a69 := Tryz.isAgg139
  z69 := Tryz.sizeOf139
  v69 := Tryz.zeroValue139
  t75 := Tryz.underlying143
  a75 := Tryz.isAgg143
  z75 := Tryz.sizeOf143
  v75 := Tryz.zeroValue143
  t79 := Tryz.underlying147
  a79 := Tryz.isAgg147
  z79 := Tryz.sizeOf147
  v79 := Tryz.zeroValue147
  t83 := Tryz.underlying152
  a83 := Tryz.isAgg152
  z83 := Tryz.sizeOf152
  v83 := Tryz.zeroValue152
  t84 := Tryz.underlying153
  a84 := Tryz.isAgg153
  z84 := Tryz.sizeOf153
  v84 := Tryz.zeroValue153 }
end Go.Proofs

/- Contracts of lowering, part m: the keys of a set of at most one string, sorted. -/
set_option linter.unusedSimpArgs false
set_option maxRecDepth 100000
namespace Go.VL
open Go.RowKit Go.Sort Go.Shelf Go.Lib Go.Proofs
theorem putCells_same {α : Type} {enc : α → Value} (d : Array α) (arr : Array Value) (h : ∀ j (hj : j < d.size), arr[j]? = some (enc d[j])) [Inhabited α] : putCells enc 0 d arr = arr := by
  refine Array.ext (by simp [putCells]) fun t h1 h2 => ?_
  simp only [putCells, Array.getElem_mapIdx, Nat.zero_add, Nat.zero_le, true_and, Nat.sub_zero]
  by_cases hF : t < d.size
  · rw [if_pos hF, getElem!_pos d t hF]
    have := h t hF
    rw [Array.getElem?_eq_getElem h2] at this
    exact (Option.some.inj this).symm
  · rw [if_neg hF]
theorem mapBlock_same {w : World} {b : Nat} {f : Array Value → Array Value} {arr : Array Value} {te : TypeId} {s : Nat × Nat} (hb : w.heap[b]? = some (.cells arr te s)) (hf : f arr = arr) : mapBlock w b f = w := by
  have hh : (mapBlock w b f).heap = w.heap := by
    apply Array.ext_getElem?
    intro i
    unfold mapBlock
    simp only []
    rw [Array.getElem?_modify]
    by_cases e : b = i
    · subst e
      rw [if_pos rfl, hb]
      simp [hf, onCells]
    · rw [if_neg e]
  unfold mapBlock at hh ⊢
  simp only [] at hh
  rw [hh]
theorem grow_keeps {F : Nat → Prop} {w : World} {I : Cells} (n : Nat) (os : Array Obj) (hF : ∀ b', F b' → b' < w.heap.size) (hin : ∀ b' o, I b' o → b' < w.heap.size) : Keeps F w I (grow (Go.Sort.ahead w n) os) I := by
  have hx : ∀ b', b' < w.heap.size → (grow (Go.Sort.ahead w n) os).heap[b']? = w.heap[b']? := fun b' h => by
    unfold grow Go.Sort.ahead
    simp only []
    rw [Array.getElem?_append_left h]
  refine ⟨rfl, rfl, rfl, ?_, fun b' hb' => hx b' (hF b' hb'), ⟨fun b' o hi => ⟨hi, by simp only [World.cell?, hx b' (hin b' o hi)]⟩, fun b' x h => by rw [hx b' (Array.getElem?_eq_some_iff.1 h).1]; exact h⟩, fun _ _ _ h => h, ?_⟩
  · unfold grow Go.Sort.ahead
    simp
  · unfold grow Go.Sort.ahead
    simp
/-- slices.Sort at one string leaves it. -/
theorem Ok.sortStr1 {P : Program} {ρ : Ren} (L : SlLaysN.n54 P ρ) (k : ByteArray) (rest : List V) (b cap : Nat) :
    Ok P (ρ.f 54) [.lit (.slice (some ⟨b, 0, none⟩) 1 cap)] [(b, .c (.lit (.string k) :: rest))] fun v bs rs => v = .tup [] ∧ bs = [(b, .c (.lit (.string k) :: rest))] ∧ rs = [] := by
  intro w I xs hr hH
  obtain rfl : xs = [.slice (some ⟨b, 0, none⟩) 1 cap] := by
    match xs, hr with
    | [x], hr => simp only [V.reps, V.rep, and_true] at hr; rw [hr]
    | [], hr => simp [V.reps] at hr
    | _ :: _ :: _, hr => simp [V.reps] at hr
  obtain ⟨arr, te, q1, q2, q3, q4⟩ := hH.bx _ (List.mem_singleton.2 rfl)
  have hblk : b < w.heap.size := (Array.getElem?_eq_some_iff.1 q1).1
  have h0 : arr[0]? = some (.string k) := by
    cases ha : arr.toList with
    | nil => rw [ha] at q3; simp [V.reps] at q3
    | cons x r =>
      rw [ha] at q3
      simp only [V.reps, V.rep] at q3
      rw [← Array.getElem?_toList, ha]
      simp [q3.1]
  have he : encStr k.data.toList = .string k := by
    unfold encStr
    congr 1
  have hv : ∀ j (hj : j < ([k.data.toList] : List (List UInt8)).toArray.size), arr[j]? = some (encStr ([k.data.toList] : List (List UInt8)).toArray[j]) := by
    intro j hj
    have : j = 0 := by simpa using hj
    subst this
    simpa [he] using h0
  have hHo : Holds encStr w b 0 ([k.data.toList] : List (List UInt8)).toArray := by
    intro j hj
    have h := hv j hj
    rw [getElem!_pos _ j hj]
    constructor
    · simp only [World.cell?, q1, Nat.zero_add]; simpa using h
    · have hlt := (Array.getElem?_eq_some_iff.1 h).1
      simp [World.frozen?, q1]
  refine (AnyG.slices_Sort_string L b 0 cap [k.data.toList] w hHo hblk (by simp)).mono fun e w' ⟨he', n, os, hw⟩ => ?_
  have hm : ([k.data.toList] : List (List UInt8)).mergeSort (fun x y => decide (x ≤ y)) = [k.data.toList] := by simp []
  rw [hm] at hw
  have hp : putRow encStr (Go.Sort.ahead w n) b 0 ([k.data.toList] : List (List UInt8)).toArray = Go.Sort.ahead w n := by
    unfold putRow
    exact mapBlock_same (arr := arr) (te := te) (s := (0, 0)) q1 (putCells_same _ _ hv)
  rw [hp] at hw
  subst hw
  have hK : Keeps (fun b' => b' < w.heap.size) w I (grow (Go.Sort.ahead w n) os) I := grow_keeps n os (fun _ h => h) hH.inn
  refine ⟨.tuple #[], .tup [], [(b, .c (.lit (.string k) :: rest))], [], I, he', by simp only [V.rep]; exact ⟨#[], rfl, by simp [V.reps]⟩, hK.mono fun b' hb' => hb'.1, ⟨fun p hp' => ?_, by simp, by simp [blks], fun b' o hi => Nat.lt_of_lt_of_le (hH.inn b' o hi) hK.size, hH.glob.mono hK.stays⟩, fun b' hb' h => h.2 (by simpa [blks] using hb'), rfl, rfl, rfl⟩
  rw [List.mem_singleton.1 hp']
  refine ⟨arr, te, ?_, q2, V.reps_mono hK.stays _ _ q3, q4⟩
  rw [hK.block b hblk]; exact q1
theorem Ok.sortStrNil {P : Program} {ρ : Ren} (L : SlLaysN.n54 P ρ) (cap : Nat) : OkP P (ρ.f 54) [.lit (.slice none 0 cap)] (.tup []) := by
  intro w I xs hr hH
  obtain rfl : xs = [.slice none 0 cap] := by
    match xs, hr with
    | [x], hr => simp only [V.reps, V.rep, and_true] at hr; rw [hr]
    | [], hr => simp [V.reps] at hr
    | _ :: _ :: _, hr => simp [V.reps] at hr
  refine (AnyG.slices_Sort_string_none L none cap w).mono fun e w' ⟨he, hw⟩ => ?_
  subst hw
  exact ⟨_, .tup [], [], [], I, he, by simp only [V.rep]; exact ⟨#[], rfl, by simp [V.reps]⟩, Keeps.refl _ _ _, hH, by simp [blks], rfl, rfl, rfl⟩
end Go.VL
namespace Go.Proofs.YtphkmlogjgeipaaGreatDoor
open Go.VL Go.Ar Go.Lo Go.Proofs.YtphkmlogjgeipaaGreatDoor

theorem sort1_ok (k : Str) (rest : List V) (b cap : Nat) : Ok Tryz.prog 67 [.lit (.slice (some ⟨b, 0, none⟩) 1 cap)] [(b, .c (vstr k :: rest))] fun v bs rs => v = .tup [] ∧ bs = [(b, .c (vstr k :: rest))] ∧ rs = [] := Ok.sortStr1 Tryz.sortS k rest b cap
theorem sort0_ok : OkP Tryz.prog 67 [nilS] (.tup []) := Ok.sortStrNil Tryz.sortS 0
end Go.Proofs.YtphkmlogjgeipaaGreatDoor

/- Contracts of lowering, part n: slices.Sorted(maps.Keys(m)) of a set of at most one string. -/
set_option linter.unusedSimpArgs false
set_option maxRecDepth 100000
-- @call 68
namespace Go.VL
theorem EX_whileP {C : Ctx} {c : Code} {k : List It} {S : St} {Q : Exit → St → Prop} {α : Type} (hm : C.P.follows .mixedOrders = true) (hk : okCode C.N C.M c = true) (μ : α → Nat) (T : α → St → Prop) (x : α) (h0 : LoseP (T x) S)
    (round : ∀ x S, T x S → EX C (.code c :: .stop (fun S' => ∃ y, μ y < μ x ∧ LoseP (T y) S') :: k) S Q) : AWP C (.loop c) S (contQ C k Q) := by
  have lp : ∀ {A B : St → Prop} {S}, (∀ S, A S → B S) → LoseP A S → LoseP B S := fun hab ⟨bs, rs, bs', rs', h1, h2, h3, h4, h⟩ => ⟨bs, rs, bs', rs', h1, h2, h3, h4, hab _ h⟩
  refine AWP.loopP (fun m S => ∃ x, μ x = m ∧ T x S) (μ x) (lp (fun S h => ⟨x, rfl, h⟩) h0) fun m S ⟨x, hx, hT⟩ => ?_
  subst hx
  refine cwp_spec hm c S _ hk (cwp_mono (fun e S' h' => ?_) (show cwp C c S _ from round x S hT))
  cases e <;> first | exact h' | (obtain ⟨y, hy, h'⟩ := h'; exact ⟨μ y, hy, lp (fun S h => ⟨y, rfl, h⟩) h'⟩)
end Go.VL
namespace Go.Proofs.YtphkmlogjgeipaaGreatDoor
open Go.VL Go.Ar Go.Lo Go.Proofs.YtphkmlogjgeipaaGreatDoor

abbrev mp (b : Nat) : V := .lit (.map (some b))
theorem left0 : leftE (entS 0 []) [] = [] := rfl
theorem left1 (k : Str) : leftE (entS 0 [k]) [] = [(0, .string k, vbool true)] := by simp [leftE, entS]
theorem left2 (k : Str) : leftE (entS 0 [k]) [0] = [] := by simp [leftE, entS]
set_option linter.defProp false in
def tbLU0 := (aI (aI (aI (aI Ty.sz4 Ty.by4) (aI Ty.ag4 (aI Ty.zr4 Ty.un4))) (aI (aI Ty.sz9 Ty.by9) (aI Ty.ag9 (aI Ty.zr9 Ty.un9)))) (aI (aI (aI Ty.sz95 Ty.by95) (aI Ty.ag95 (aI Ty.zr95 Ty.un95))) (aI (aI Ty.sz109 (aI Ty.by109 Ty.ag109)) (aI Ty.zr109 (aI Ty.mp95 Ty.cb68)))))
theorem iter0 (y b1 bm : Nat) (hb : b1 ≠ bm ∧ bm ≠ b1) (J : List (Nat × B)) : Ok Tryz.prog 68 [.lit (.func (.yield y) #[] #[]), ptr b1] ((b1, .c [mp bm]) :: (bm, mS []) :: J) fun v bs rs => v = .tup [] ∧ bs = (b1, .c [mp bm]) :: (bm, mS []) :: J ∧ rs = [] := by
  refine Ok.of_ex Ty.mixed Tryz.func68 rfl (by simp [Tryz.ntmps68]) (by kernel_rfl) fun F w0 I0 => ?_
  simp only [↓rA, rB, tbLU0, hb]
  refine fun ib hi => ?_; replace hi := newb hi; try simp only [Nb] at hi
  simp only [↓rA, rB, Tryz.results68]
  refine EX_whileP Ty.mixed (by kernel_rfl) (fun _ : Nat => 0) (fun _ S => S.boxes = (ib, .it bm 0 [] 0) :: (b1, .c [mp bm]) :: (bm, mS []) :: J ∧ S.rows = [] ∧ S.σ 5 = ptr ib) 0 ⟨_, _, _, _, List.Sublist.refl _, List.Sublist.refl _, List.Perm.refl _, List.Perm.refl _, ?_⟩ (fun _ S ⟨gb, gr, g5⟩ => ?_)
  · simp only [rB]
  · simp only [↓rA, rB, gb, g5, hb, hi]
    refine ⟨fun _ => ?_, fun e he => ?_⟩
    · simp only [↓rA, rB, gb, gr]
      exact ⟨_, _, [], Le.refl _, List.Sublist.cons _ (List.Sublist.refl _), List.nil_sublist _, rfl, rfl, rfl⟩
    · rw [left0] at he; cases he
set_option linter.defProp false in
def tbLU1 := (aI (aI (aI (aI Ty.sz4 Ty.by4) (aI Ty.ag4 (aI Ty.zr4 Ty.un4))) (aI (aI Ty.sz9 Ty.by9) (aI Ty.ag9 (aI Ty.zr9 Ty.un9)))) (aI (aI (aI Ty.sz95 Ty.by95) (aI Ty.ag95 (aI Ty.zr95 Ty.un95))) (aI (aI Ty.sz109 (aI Ty.by109 Ty.ag109)) (aI Ty.zr109 (aI Ty.mp95 Ty.cb68)))))
theorem iter1 (k : Str) (y b1 bm : Nat) (hb : b1 ≠ bm ∧ bm ≠ b1) (J0 : List (Nat × B)) (J1 : List (Nat × B) → Prop) (hY : OkY Tryz.prog y [vstr k] J0 fun v bs rs => v = vbool true ∧ J1 bs ∧ rs = []) :
    Ok Tryz.prog 68 [.lit (.func (.yield y) #[] #[]), ptr b1] ((b1, .c [mp bm]) :: (bm, mS [k]) :: J0) fun v bs rs => v = .tup [] ∧ (∃ Jn, J1 Jn ∧ bs = (b1, .c [mp bm]) :: (bm, mS [k]) :: Jn) ∧ rs = [] := by
  refine Ok.of_ex Ty.mixed Tryz.func68 rfl (by simp [Tryz.ntmps68]) (by kernel_rfl) fun F w0 I0 => ?_
  simp only [↓rA, rB, tbLU1, hb]
  refine fun ib hi => ?_; replace hi := newb hi; try simp only [Nb] at hi
  simp only [↓rA, rB, Tryz.results68]
  refine EX_whileP Ty.mixed (by kernel_rfl) (fun x : Bool => if x then 0 else 1) (fun x S => (if x = true then ∃ Jn, J1 Jn ∧ S.boxes = (ib, .it bm 1 [0] 1) :: (b1, .c [mp bm]) :: (bm, mS [k]) :: Jn else S.boxes = (ib, .it bm 1 [] 1) :: (b1, .c [mp bm]) :: (bm, mS [k]) :: J0) ∧ S.rows = [] ∧ S.σ 0 = .lit (.func (.yield y) #[] #[]) ∧ S.σ 5 = ptr ib) false ⟨_, _, _, _, List.Sublist.refl _, List.Sublist.refl _, List.Perm.refl _, List.Perm.refl _, ?_⟩ (fun x S ⟨gx, gr, g0, g5⟩ => ?_)
  · simp only [rB, reduceCtorEq]
  · cases x with
    | false =>
      simp only [Bool.false_eq_true, if_false] at gx
      simp only [↓rA, rB, gx, g5, hb, hi]
      refine ⟨fun h => ?_, fun e he hf => ?_⟩
      · rw [left1] at h; cases h
      · rw [left1] at he
        obtain rfl := List.mem_singleton.1 he
        simp only at hf
        simp only [↓rA, rB, Nat.reduceEqDiff, reduceCtorEq, gx, g0, g5, hb, hi, hf, List.getLast?_singleton]
        refine OkYF_with J0 [(ib, .it bm 1 [0] 1), (b1, .c [mp bm]), (bm, mS [k])] (List.perm_append_comm (l₁ := [(ib, B.it bm 1 [0] 1), (b1, B.c [mp bm]), (bm, mS [k])]) (l₂ := J0)) hY ?_
        rintro v Jn rs ⟨rfl, hJn, rfl⟩ _
        simp only [↓rA, rB, gr]
        refine ⟨true, by decide, _, _, _, _, List.Sublist.refl _, List.Sublist.refl _, List.perm_append_comm, List.Perm.refl _, ?_⟩
        simp only [rB, Nat.reduceEqDiff, reduceCtorEq, g0, g5]
        exact ⟨Jn, hJn, rfl⟩
    | true =>
      simp only [if_true] at gx
      obtain ⟨Jn, hJ, gb⟩ := gx
      simp only [↓rA, rB, gb, g5, hb, hi]
      refine ⟨fun _ => ?_, fun e he => ?_⟩
      · simp only [↓rA, rB, gb, gr]
        exact ⟨_, _, [], Le.refl _, List.Sublist.cons _ (List.Sublist.refl _), List.nil_sublist _, rfl, ⟨Jn, hJ, rfl⟩, rfl⟩
      · rw [left2] at he; cases he

abbrev fnK (b1 : Nat) : V := .lit (.func (.func 68) #[] #[.pointer (some ⟨b1, 0, none⟩)])
set_option linter.defProp false in
def tbLU2 := (aI (aI (aI Ty.sz9 (aI Ty.by9 Ty.ag9)) (aI (aI Ty.zr9 Ty.un9) (aI Ty.sz78 Ty.by78))) (aI (aI (aI Ty.ag78 Ty.zr78) (aI Ty.un78 Ty.sz99)) (aI (aI Ty.by99 Ty.ag99) (aI Ty.zr99 Ty.cb68))))
theorem appendSeq0 (b1 bm : Nat) (hb : b1 ≠ bm ∧ bm ≠ b1) : Ok Tryz.prog 77 [nilS, fnK b1] [(b1, .c [mp bm]), (bm, mS [])] fun v bs rs => v = nilS ∧ bs = [(b1, .c [mp bm]), (bm, mS [])] ∧ rs = [] := by
  refine Ok.of_ex Ty.mixed Tryz.func77 rfl (by simp [Tryz.ntmps77]) (by kernel_rfl) fun F w0 I0 => ?_
  simp only [↓rA, rB]
  refine fun b2 h2 => ?_; replace h2 := newb h2; try simp only [Nb] at h2
  simp only [↓rA, rB, Nat.reduceEqDiff, Tryz.results77]
  refine EX_rangeFunc rfl (gf := 68) (first := #[]) (cap := #[.pointer (some ⟨b1, 0, none⟩)]) rfl Ty.cb68 [(b2, .c [nilS]), (b1, .c [mp bm]), (bm, mS [])] [] (by rw [List.append_nil]; exact List.Perm.refl _)
    (fun l r v bs rs => rs = [] ∧ bs = [(l, .obj (.loop r)), (b2, .c [nilS]), (b1, .c [mp bm]), (bm, mS [])]) ?_ ?_
  · intro l r hfr hrec hpa has hbo
    refine Ok.permR (Ok.permL (iter0 l b1 bm hb [(l, .obj (.loop r)), (b2, .c [nilS])]) ?_) fun v bs rs ⟨h1, h2, h3⟩ => ⟨_, ?_, h3, rfl⟩
    · exact List.perm_append_comm (l₁ := [(l, B.obj (.loop r)), (b2, B.c [nilS])]) (l₂ := [(b1, B.c [mp bm]), (bm, mS [])])
    · rw [h2]
      exact List.perm_append_comm (l₁ := [(b1, B.c [mp bm]), (bm, mS [])]) (l₂ := [(l, B.obj (.loop r)), (b2, B.c [nilS])])
  · intro l r v bs rs hrec ⟨h1, h3⟩
    subst h1 h3
    refine ⟨_, rfl, fun _ => ?_⟩
    simp only [↓rA, rB, Nat.reduceEqDiff, tbLU2]
    exact ⟨_, [_, _], [], Le.refl _, List.Sublist.cons _ (List.Sublist.refl _), List.nil_sublist _, rfl, rfl, rfl⟩
set_option linter.defProp false in
def tbLU3 := (aI (aI (aI Ty.sz9 (aI Ty.by9 Ty.ag9)) (aI (aI Ty.zr9 Ty.un9) (aI Ty.sz78 Ty.by78))) (aI (aI (aI Ty.ag78 Ty.zr78) (aI Ty.un78 Ty.sz99)) (aI (aI Ty.by99 Ty.ag99) (aI Ty.zr99 Ty.cb68))))
theorem appendSeq1 (k : Str) (b1 bm : Nat) (hb : b1 ≠ bm ∧ bm ≠ b1) : Ok Tryz.prog 77 [nilS, fnK b1] [(b1, .c [mp bm]), (bm, mS [k])] fun v bs rs =>
    ∃ b c, 1 ≤ c ∧ v = .lit (.slice (some ⟨b, 0, none⟩) 1 c) ∧ bs = [(b, .c (vstr k :: anys (c - 1))), (b1, .c [mp bm]), (bm, mS [k])] ∧ rs = [] := by
  refine Ok.of_ex Ty.mixed Tryz.func77 rfl (by simp [Tryz.ntmps77]) (by kernel_rfl) fun F w0 I0 => ?_
  simp only [↓rA, rB]
  refine fun b2 h2 => ?_; replace h2 := newb h2; try simp only [Nb] at h2
  simp only [↓rA, rB, Nat.reduceEqDiff, Tryz.results77]
  refine EX_rangeFunc rfl (gf := 68) (first := #[]) (cap := #[.pointer (some ⟨b1, 0, none⟩)]) rfl Ty.cb68 [(b2, .c [nilS]), (b1, .c [mp bm]), (bm, mS [k])] [] (by rw [List.append_nil]; exact List.Perm.refl _)
    (fun l r v bs rs => rs = [] ∧ ∃ b c, 1 ≤ c ∧ (b ≠ b2 ∧ b2 ≠ b) ∧ bs = [(l, .obj (.loop r)), (b, .c (vstr k :: anys (c - 1))), (b2, .c [.lit (.slice (some ⟨b, 0, none⟩) 1 c)]), (b1, .c [mp bm]), (bm, mS [k])]) ?_ ?_
  · intro l r hfr hrec hpa has hbo
    have hlb : l ≠ b2 ∧ b2 ≠ l := by
      simp only [rB] at hfr
      have := newb hfr
      simp only [Nb] at this
      exact ⟨fun e => this.1.1 e.symm, this.1.1⟩
    refine Ok.permR (Ok.permL (iter1 k l b1 bm hb [(l, .obj (.loop r)), (b2, .c [nilS])] (fun bs => ∃ b c, 1 ≤ c ∧ (b ≠ b2 ∧ b2 ≠ b) ∧ bs = [(l, .obj (.loop r)), (b, .c (vstr k :: anys (c - 1))), (b2, .c [.lit (.slice (some ⟨b, 0, none⟩) 1 c)])]) ?_) ?_) fun v bs rs ⟨h1, ⟨Jn, ⟨b, c, hc, hbb, h2⟩, h3⟩, h4⟩ => ⟨_, ?_, h4, b, c, hc, hbb, rfl⟩
    · refine OkY.of_round (M := []) Ty.mixed hrec hpa has hbo rfl (by simp [Tryz.ntmps77]) (by kernel_rfl) (by kernel_rfl) fun F w0 I0 => ?_
      generalize hσr : roundσ _ _ _ = σr
      have h7 : σr 7 = vstr k := by rw [← hσr]; rfl
      have h22 : σr 2 = ptr b2 := by rw [← hσr]; rfl
      clear hσr
      simp only [↓rA, rB, Nat.reduceEqDiff, Nat.reduceLT, Nat.reduceLeDiff, Nat.reduceMul, tbLU3, h7, h22]
      refine ⟨[], [_], rfl, ?_⟩
      simp only [rB, hlb]
      refine fun y => Or2.r ?_
      simp only [↓rA, rB, Nat.reduceLT, Nat.reduceLeDiff, Nat.reduceMul, tbLU3]
      refine fun b c hb' hc => ?_
      have hbn := newb hb'
      simp only [Nb] at hbn
      simp only [rB, Nat.reduceEqDiff, h22, hlb, hbn]
      refine ⟨[_], [_], [_, _], rfl, List.Sublist.refl _, rfl, ⟨b, c, hc, ⟨hbn.2.1.2, hbn.2.1.1⟩, by rw [Nat.mul_one]; rfl⟩, rfl⟩
    · exact List.perm_append_comm (l₁ := [(l, B.obj (.loop r)), (b2, B.c [nilS])]) (l₂ := [(b1, B.c [mp bm]), (bm, mS [k])])
    · rw [h3, h2]
      exact List.perm_append_comm (l₁ := [(b1, B.c [mp bm]), (bm, mS [k])]) (l₂ := [(l, B.obj (.loop r)), (b, B.c (vstr k :: anys (c - 1))), (b2, B.c [.lit (.slice (some ⟨b, 0, none⟩) 1 c)])])
  · intro l r v bs rs hrec ⟨h1, b, c, hc, hbb, h3⟩
    subst h1 h3
    refine ⟨_, rfl, fun _ => ?_⟩
    simp only [↓rA, rB, Nat.reduceEqDiff, tbLU3, hbb]
    exact ⟨_, [_, _, _], [], Le.refl _, List.Sublist.cons_cons _ (List.Sublist.cons _ (List.Sublist.refl _)), List.nil_sublist _, b, c, hc, rfl, rfl, rfl⟩
set_option linter.defProp false in
def tbLU4 := (aI (aI (aI (aI Ty.sz9 Ty.by9) (aI Ty.ag9 Ty.zr9)) (aI (aI Ty.un9 Ty.sz78) (aI Ty.by78 Ty.ag78))) (aI (aI (aI Ty.zr78 Ty.un78) (aI Ty.sz99 Ty.by99)) (aI (aI Ty.ag99 Ty.zr99) (aI Ty.cb68 Ty.cb77))))
theorem collect0 (b1 bm : Nat) (hb : b1 ≠ bm ∧ bm ≠ b1) : Ok Tryz.prog 66 [fnK b1] [(b1, .c [mp bm]), (bm, mS [])] fun v bs rs => v = nilS ∧ bs = [(b1, .c [mp bm]), (bm, mS [])] ∧ rs = [] := by
  refine Ok.of_ex Ty.mixed Tryz.func66 rfl (by simp [Tryz.ntmps66]) (by kernel_rfl) fun F w0 I0 => ?_
  simp only [↓rA, rB, reduceCtorEq, tbLU4]
  refine OkF_with [_, _] [] (List.Perm.refl _) (appendSeq0 b1 bm hb) ?_
  rintro v bs rs ⟨rfl, rfl, rfl⟩
  simp only [↓rA, rB, Tryz.results66]
  exact ⟨_, _, [], Le.refl _, List.Sublist.refl _, List.nil_sublist _, rfl, rfl, rfl⟩
set_option linter.defProp false in
def tbLU5 := (aI (aI (aI (aI Ty.sz9 Ty.by9) (aI Ty.ag9 Ty.zr9)) (aI (aI Ty.un9 Ty.sz78) (aI Ty.by78 Ty.ag78))) (aI (aI (aI Ty.zr78 Ty.un78) (aI Ty.sz99 Ty.by99)) (aI (aI Ty.ag99 Ty.zr99) (aI Ty.cb68 Ty.cb77))))
theorem collect1 (k : Str) (b1 bm : Nat) (hb : b1 ≠ bm ∧ bm ≠ b1) : Ok Tryz.prog 66 [fnK b1] [(b1, .c [mp bm]), (bm, mS [k])] fun v bs rs =>
    ∃ b c, 1 ≤ c ∧ v = .lit (.slice (some ⟨b, 0, none⟩) 1 c) ∧ bs = [(b, .c (vstr k :: anys (c - 1))), (b1, .c [mp bm]), (bm, mS [k])] ∧ rs = [] := by
  refine Ok.of_ex Ty.mixed Tryz.func66 rfl (by simp [Tryz.ntmps66]) (by kernel_rfl) fun F w0 I0 => ?_
  simp only [↓rA, rB, reduceCtorEq, tbLU5]
  refine OkF_with [_, _] [] (List.Perm.refl _) (appendSeq1 k b1 bm hb) ?_
  rintro v bs rs ⟨b, c, hc, rfl, rfl, rfl⟩
  simp only [↓rA, rB, Tryz.results66]
  exact ⟨_, _, [], Le.refl _, List.Sublist.refl _, List.nil_sublist _, b, c, hc, rfl, rfl, rfl⟩
set_option linter.defProp false in
def tbLU6 := (aI (aI (aI (aI Ty.sz9 Ty.by9) (aI Ty.ag9 Ty.zr9)) (aI (aI Ty.un9 Ty.sz78) (aI Ty.by78 Ty.ag78))) (aI (aI (aI Ty.zr78 Ty.un78) (aI Ty.sz99 Ty.by99)) (aI (aI Ty.ag99 Ty.zr99) (aI Ty.cb66 (aI Ty.cb67 Ty.cb68)))))
theorem sorted0 (b1 bm : Nat) (hb : b1 ≠ bm ∧ bm ≠ b1) : Ok Tryz.prog 51 [fnK b1] [(b1, .c [mp bm]), (bm, mS [])] fun v bs rs => v = vstrs [] ∧ bs = [(bm, mS [])] ∧ rs = [] := by
  refine Ok.of_ex Ty.mixed Tryz.func51 rfl (by simp [Tryz.ntmps51]) (by kernel_rfl) fun F w0 I0 => ?_
  simp only [↓rA, rB, reduceCtorEq, tbLU6]
  refine OkF_with [_, _] [] (List.Perm.refl _) (collect0 b1 bm hb) ?_
  rintro v bs rs ⟨rfl, rfl, rfl⟩
  simp only [↓rA, rB, tbLU6]
  refine OkF_of _ sort0_ok ?_
  simp only [↓rA, rB, Nat.reduceEqDiff, Tryz.results51]
  exact ⟨_, [_], [], Le.nil 1, List.Sublist.cons _ (List.Sublist.refl _), List.nil_sublist _, rfl, rfl, rfl⟩
set_option linter.defProp false in
def tbLU7 := (aI (aI (aI (aI Ty.sz9 Ty.by9) (aI Ty.ag9 Ty.zr9)) (aI (aI Ty.un9 Ty.sz78) (aI Ty.by78 Ty.ag78))) (aI (aI (aI Ty.zr78 Ty.un78) (aI Ty.sz99 Ty.by99)) (aI (aI Ty.ag99 Ty.zr99) (aI Ty.cb66 (aI Ty.cb67 Ty.cb68)))))
theorem sorted1 (k : Str) (b1 bm : Nat) (hb : b1 ≠ bm ∧ bm ≠ b1) : Ok Tryz.prog 51 [fnK b1] [(b1, .c [mp bm]), (bm, mS [k])] fun v bs rs => v = vstrs [k] ∧ bs = [(bm, mS [k])] ∧ rs = [] := by
  refine Ok.norows' (Q := fun v bs rs => bs = [(bm, mS [k])] ∧ rs = [] ∧ ∃ y, v = .list (some y) 1 [[vstr k]]) (Ok.freeze (Q := fun v bs rs => ∃ b c, 1 ≤ c ∧ v = .lit (.slice (some ⟨b, 0, none⟩) 1 c) ∧ bs = [(b, .c (vstr k :: anys (c - 1))), (bm, mS [k])] ∧ rs = []) ?_ fun v bs rs h => ?_) fun v bs rs h => ?_
  · refine Ok.of_ex Ty.mixed Tryz.func51 rfl (by simp [Tryz.ntmps51]) (by kernel_rfl) fun F w0 I0 => ?_
    simp only [↓rA, rB, reduceCtorEq, tbLU7]
    refine OkF_with [_, _] [] (List.Perm.refl _) (collect1 k b1 bm hb) ?_
    rintro v bs rs ⟨b, c, hc, rfl, rfl, rfl⟩
    simp only [↓rA, rB, tbLU7]
    refine OkF_with [_] [_, _] (List.Perm.refl _) (sort1_ok k (anys (c - 1)) b c) ?_
    rintro v bs rs ⟨rfl, rfl, rfl⟩
    simp only [↓rA, rB, Nat.reduceEqDiff, Tryz.results51]
    exact ⟨_, [_, _], [], Le.refl _, List.Sublist.cons_cons _ (List.Sublist.cons _ (List.Sublist.refl _)), List.nil_sublist _, b, c, hc, rfl, rfl, rfl⟩
  · obtain ⟨b, c, hc, rfl, rfl, rfl⟩ := h
    exact .inr ⟨b, 1, c, 1, _, [[vstr k]], _, _, List.Perm.refl _, ⟨rfl, fun e he => by obtain rfl := List.mem_singleton.1 he; rfl, rfl, hc⟩, .here, rfl, rfl, _, rfl⟩
  · obtain ⟨rfl, rfl, y, rfl⟩ := h
    exact ⟨_, _, [], Le.list _ _ _, List.Sublist.refl _, List.nil_sublist _, rfl, rfl, rfl⟩
set_option linter.defProp false in
def tbLU8 := (aI (aI (aI (aI Ty.sz4 (aI Ty.by4 Ty.ag4)) (aI Ty.zr4 (aI Ty.un4 Ty.sz9))) (aI (aI Ty.by9 (aI Ty.ag9 Ty.zr9)) (aI Ty.un9 (aI Ty.sz95 Ty.by95)))) (aI (aI (aI Ty.ag95 (aI Ty.zr95 Ty.un95)) (aI Ty.sz98 (aI Ty.by98 Ty.ag98))) (aI (aI Ty.zr98 (aI Ty.sz99 Ty.by99)) (aI (aI Ty.ag99 Ty.zr99) (aI Ty.mp95 Ty.cb68)))))
theorem keys_ok (bm : Nat) (z : B) : Ok Tryz.prog 52 [mp bm] [(bm, z)] fun v bs rs => ∃ b1, (b1 ≠ bm ∧ bm ≠ b1) ∧ v = fnK b1 ∧ bs = [(b1, .c [mp bm]), (bm, z)] ∧ rs = [] := by
  refine Ok.of_ex Ty.mixed Tryz.func52 rfl (by simp [Tryz.ntmps52]) (by kernel_rfl) fun F w0 I0 => ?_
  simp only [↓rA, rB]
  refine fun b1 h1 => ?_; replace h1 := newb h1; try simp only [Nb] at h1
  simp only [↓rA, rB, Nat.reduceEqDiff, Tryz.results52]
  exact ⟨_, _, [], Le.refl _, List.Sublist.refl _, List.nil_sublist _, b1, ⟨h1.1.2, h1.1.1⟩, rfl, rfl, rfl⟩
end Go.Proofs.YtphkmlogjgeipaaGreatDoor

/- Contracts of lowering, part o: catalog.Uses at small sets; lower.Class. -/
set_option linter.unusedSimpArgs false
set_option maxRecDepth 100000
-- @call 30 32
namespace Go.Lo
open Go.VL Go.Ar
abbrev sMM : List Str := [⟨#[109, 105, 110]⟩, ⟨#[109, 97, 120]⟩, ⟨#[102, 105, 114, 115, 116]⟩, ⟨#[108, 97, 115, 116]⟩]
end Go.Lo
namespace Go.Proofs.YtphkmlogjgeipaaGreatDoor
open Go.VL Go.Ar Go.Lo Go.Proofs.YtphkmlogjgeipaaGreatDoor

def up (n m : Int) : Int := if m > n then m else n
def clsM (h : Hd) (n : Int) : Int := if h.wk = 4 then up n 3 else if memS sMM h.op = true then up n 2 else up n 1
mutual
def eachM : E → Int → Int
  | .mk h l, n => if h.kind = 5 then clsM h n else eachMs l n
def eachMs : List E → Int → Int
  | [], n => n
  | x :: r, n => eachMs r (eachM x n)
end
theorem eachM_mk (h : Hd) (l : List E) (n : Int) : eachM (.mk h l) n = if h.kind = 5 then clsM h n else eachMs l n := by rw [eachM]
theorem eachMs_append : ∀ (l m : List E) (n : Int), eachMs (l ++ m) n = eachMs m (eachMs l n)
  | [], m, n => rfl
  | x :: r, m, n => by simp only [List.cons_append, eachMs, eachMs_append r m]
set_option linter.defProp false in
def tbLW0 := (aI (aI (aI (aI (aI (aI Ty.sz3 Ty.by3) (aI Ty.ag3 (aI Ty.zr3 Ty.un3))) (aI (aI Ty.sz4 Ty.by4) (aI Ty.ag4 (aI Ty.zr4 Ty.un4)))) (aI (aI (aI Ty.sz9 Ty.by9) (aI Ty.ag9 (aI Ty.zr9 Ty.un9))) (aI (aI Ty.sz28 (aI Ty.by28 Ty.ag28)) (aI Ty.zr28 (aI Ty.fl28_0 Ty.pl28_0))))) (aI (aI (aI (aI Ty.fl28_1 Ty.pl28_1) (aI Ty.fl28_2 (aI Ty.pl28_2 Ty.sz29))) (aI (aI Ty.by29 Ty.ag29) (aI Ty.zr29 (aI Ty.un29 Ty.sz31)))) (aI (aI (aI Ty.by31 Ty.ag31) (aI Ty.zr31 (aI Ty.fl31_0 Ty.pl31_0))) (aI (aI Ty.fl31_1 (aI Ty.pl31_1 Ty.sz32)) (aI Ty.by32 (aI Ty.ag32 Ty.zr32)))))) (aI (aI (aI (aI (aI Ty.un32 Ty.sz34) (aI Ty.by34 (aI Ty.ag34 Ty.zr34))) (aI (aI Ty.fl34_0 Ty.pl34_0) (aI Ty.fl34_1 (aI Ty.pl34_1 Ty.fl34_2)))) (aI (aI (aI Ty.pl34_2 Ty.fl34_3) (aI Ty.pl34_3 (aI Ty.fl34_4 Ty.pl34_4))) (aI (aI Ty.fl34_5 (aI Ty.pl34_5 Ty.fl34_6)) (aI Ty.pl34_6 (aI Ty.fl34_7 Ty.pl34_7))))) (aI (aI (aI (aI Ty.fl34_8 Ty.pl34_8) (aI Ty.sz78 (aI Ty.by78 Ty.ag78))) (aI (aI Ty.zr78 Ty.un78) (aI Ty.sz103 (aI Ty.by103 Ty.ag103)))) (aI (aI (aI Ty.zr103 Ty.fl103_0) (aI Ty.pl103_0 (aI Ty.fl103_1 Ty.pl103_1))) (aI (aI Ty.eq28 (aI Ty.eq31 Ty.eq103)) (aI Ty.cb30 (aI Ty.cb32 Ty.cb33)))))))
theorem do_ok (h : Hd) (l : List E) (bn : Nat) (n : Int) : Ok Tryz.prog 32 [.agg (cH h (vEs l)), ptr bn] [(bn, .c [vint n])] fun v bs rs => v = .tup [] ∧ bs = [(bn, .c [vint (clsM h n)])] ∧ rs = [] := by
  refine Ok.of_ex Ty.mixed Tryz.func32 rfl (by simp [Tryz.ntmps32]) (by kernel_rfl) fun F w0 I0 => ?_
  simp only [↓rA, rB]
  refine fun b2 h2 => ?_; replace h2 := newb h2; try simp only [Nb] at h2
  by_cases e : h.wk = 4
  · have hc : clsM h n = up n 3 := by rw [clsM, if_pos e]
    rw [hc]
    simp only [↓rA, rB, Nat.reduceAdd, Nat.reduceEqDiff, tbLW0, Tryz.results32, h2, e]
    exact ⟨_, [_], [], Le.refl _, List.Sublist.cons _ (List.Sublist.refl _), List.nil_sublist _, rfl, rfl, rfl⟩
  · simp only [↓rA, rB, Nat.reduceAdd, Nat.reduceEqDiff, Nat.reduceLT, Nat.reduceLeDiff, Nat.reduceMul, tbLW0, e]
    refine fun y => ?_
    refine OkF_le (.cons (Le.list _ _ _) (.cons (Le.refl _) .nil)) _ (containsS_ok sMM h.op (by decide)) ?_
    cases e2 : memS sMM h.op
    · have hc : clsM h n = up n 1 := by rw [clsM, if_neg e, if_neg (by rw [e2]; decide)]
      rw [hc]
      simp only [↓rA, rB, Nat.reduceEqDiff, tbLW0, Tryz.results32, h2]
      exact ⟨_, [_], [], Le.refl _, List.Sublist.cons _ (List.Sublist.refl _), List.nil_sublist _, rfl, rfl, rfl⟩
    · have hc : clsM h n = up n 2 := by rw [clsM, if_neg e, if_pos e2]
      rw [hc]
      simp only [↓rA, rB, Nat.reduceEqDiff, tbLW0, Tryz.results32, h2]
      exact ⟨_, [_], [], Le.refl _, List.Sublist.cons _ (List.Sublist.refl _), List.nil_sublist _, rfl, rfl, rfl⟩
abbrev fnD (bn : Nat) : V := .lit (.func (.func 32) #[] #[.pointer (some ⟨bn, 0, none⟩)])
abbrev fnO (bn : Nat) : V := .lit (.func (.func 30) #[] #[.pointer (some ⟨bn, 0, none⟩)])
set_option linter.defProp false in
def tbLW1 := (aI (aI (aI (aI (aI (aI Ty.sz3 Ty.by3) (aI Ty.ag3 (aI Ty.zr3 Ty.un3))) (aI (aI Ty.sz4 Ty.by4) (aI Ty.ag4 (aI Ty.zr4 Ty.un4)))) (aI (aI (aI Ty.sz9 Ty.by9) (aI Ty.ag9 (aI Ty.zr9 Ty.un9))) (aI (aI Ty.sz28 Ty.by28) (aI Ty.ag28 (aI Ty.zr28 Ty.fl28_0))))) (aI (aI (aI (aI Ty.pl28_0 Ty.fl28_1) (aI Ty.pl28_1 (aI Ty.fl28_2 Ty.pl28_2))) (aI (aI Ty.sz29 Ty.by29) (aI Ty.ag29 (aI Ty.zr29 Ty.un29)))) (aI (aI (aI Ty.sz31 Ty.by31) (aI Ty.ag31 (aI Ty.zr31 Ty.fl31_0))) (aI (aI Ty.pl31_0 (aI Ty.fl31_1 Ty.pl31_1)) (aI Ty.sz32 (aI Ty.by32 Ty.ag32)))))) (aI (aI (aI (aI (aI Ty.zr32 Ty.un32) (aI Ty.sz34 (aI Ty.by34 Ty.ag34))) (aI (aI Ty.zr34 Ty.fl34_0) (aI Ty.pl34_0 (aI Ty.fl34_1 Ty.pl34_1)))) (aI (aI (aI Ty.fl34_2 Ty.pl34_2) (aI Ty.fl34_3 (aI Ty.pl34_3 Ty.fl34_4))) (aI (aI Ty.pl34_4 (aI Ty.fl34_5 Ty.pl34_5)) (aI Ty.fl34_6 (aI Ty.pl34_6 Ty.fl34_7))))) (aI (aI (aI (aI Ty.pl34_7 Ty.fl34_8) (aI Ty.pl34_8 (aI Ty.sz79 Ty.by79))) (aI (aI Ty.ag79 Ty.zr79) (aI Ty.sz103 (aI Ty.by103 Ty.ag103)))) (aI (aI (aI Ty.zr103 Ty.fl103_0) (aI Ty.pl103_0 (aI Ty.fl103_1 Ty.pl103_1))) (aI (aI Ty.eq28 (aI Ty.eq31 Ty.eq103)) (aI Ty.cb30 (aI Ty.cb31 Ty.cb32)))))))
theorem each_ok : ∀ (x : E), Fit x → ∀ (bn : Nat) (n : Int), Ok Tryz.prog 31 [vE x, fnD bn] [(bn, .c [vint n])] fun v bs rs => v = .tup [] ∧ bs = [(bn, .c [vint (eachM x n)])] ∧ rs = [] := by
  intro x
  induction x using E.ind with
  | h hd l ih =>
  intro hf bn n
  have hl := hf.len
  have ha := hf.args
  simp only [E.args, big] at hl ha
  rw [vE, cE_mk, eachM_mk]
  refine Ok.of_ex Ty.mixed Tryz.func31 rfl (by simp [Tryz.ntmps31]) (by kernel_rfl) fun F w0 I0 => ?_
  simp only [↓rA, rB]
  refine fun b2 h2 => ?_; replace h2 := newb h2; try simp only [Nb] at h2
  by_cases e : hd.kind = 5
  · rw [if_pos e]
    have hq := do_ok hd l bn n
    simp only [cH, e] at hq
    simp only [↓rA, rB, Nat.reduceAdd, Nat.reduceEqDiff, tbLW1, e]
    refine OkF_with _ [] (List.Perm.of_eq (List.append_nil _).symm) (Ok.frame [_] hq) ?_
    rintro v bs rs ⟨bs1, rfl, _, rfl, rfl, rfl⟩
    simp only [↓rA, rB, Tryz.results31]
    exact ⟨_, [_], [], Le.refl _, List.Sublist.cons _ (List.Sublist.refl _), List.nil_sublist _, rfl, rfl, rfl⟩
  · rw [if_neg e]
    simp only [↓rA, rB, Nat.reduceAdd, Nat.reduceEqDiff, tbLW1, Tryz.results31, e]
    refine EX_for Ty.mixed (by kernel_rfl) l.length (fun i S => S.boxes = [(b2, .c (cH hd (vEs l))), (bn, .c [vint (eachMs (l.take i) n)])] ∧ S.rows = [] ∧ S.σ 1 = fnD bn ∧ S.σ 13 = vEs l ∧ S.σ 14 = vint l.length ∧ S.σ 15 = vint i) ⟨0, ?_⟩ (fun i S hi ⟨gb, gr, g1, g13, g14, g15⟩ => ?_) (fun S ⟨gb, gr, g1, g13, g14, g15⟩ => ?_)
    · simp only [rB, Nat.reduceEqDiff, List.length_map, eachMs]
    · have hwi := wrap_succ (i := i) (N := l.length) hi (by omega)
      have hx := List.getElem_mem hi
      simp only [↓rA, rB, Nat.reduceAdd, Nat.reduceEqDiff, tbLW1, gb, gr, g13, g14, g15, Int.ofNat_lt, hi, List.length_map, getD_map _ _ _ hi, cE_eq]
      refine fun b5 h5 => ?_; replace h5 := newb h5; try simp only [Nb] at h5
      simp only [↓rA, rB, Nat.reduceAdd, Nat.reduceEqDiff, tbLW1, gb, g1, getD_map _ _ _ hi]
      have hc := ih l[i] hx (ha _ hx) bn (eachMs (l.take i) n)
      rw [vE, cE_eq] at hc
      refine OkF_with _ [] (List.Perm.of_eq (List.append_nil _).symm) (Ok.frame [_, _] hc) ?_
      rintro v bs rs ⟨bs1, rfl, _, rfl, rfl, rfl⟩
      simp only [↓rA, rB, Nat.reduceEqDiff, gr, g1, g13, g14, g15, hwi]
      refine ⟨1, ?_⟩
      rw [List.take_succ_eq_append_getElem hi, eachMs_append]
      rfl
    · rw [List.take_of_length_le (Nat.le_refl _)] at gb
      simp only [↓rA, rB, gb, gr, g14, g15, Int.ofNat_lt, Nat.lt_irrefl]
      exact ⟨_, [_], [], Le.refl _, List.Sublist.cons _ (List.Sublist.refl _), List.nil_sublist _, rfl, rfl, rfl⟩
set_option linter.defProp false in
def tbLW2 := (aI (aI (aI (aI (aI (aI Ty.sz3 Ty.by3) (aI Ty.ag3 Ty.zr3)) (aI (aI Ty.un3 Ty.sz9) (aI Ty.by9 (aI Ty.ag9 Ty.zr9)))) (aI (aI (aI Ty.un9 Ty.sz28) (aI Ty.by28 (aI Ty.ag28 Ty.zr28))) (aI (aI Ty.fl28_0 Ty.pl28_0) (aI Ty.fl28_1 (aI Ty.pl28_1 Ty.fl28_2))))) (aI (aI (aI (aI Ty.pl28_2 Ty.sz29) (aI Ty.by29 (aI Ty.ag29 Ty.zr29))) (aI (aI Ty.un29 Ty.sz31) (aI Ty.by31 (aI Ty.ag31 Ty.zr31)))) (aI (aI (aI Ty.fl31_0 Ty.pl31_0) (aI Ty.fl31_1 (aI Ty.pl31_1 Ty.sz32))) (aI (aI Ty.by32 Ty.ag32) (aI Ty.zr32 (aI Ty.un32 Ty.sz34)))))) (aI (aI (aI (aI (aI Ty.by34 Ty.ag34) (aI Ty.zr34 Ty.fl34_0)) (aI (aI Ty.pl34_0 Ty.fl34_1) (aI Ty.pl34_1 (aI Ty.fl34_2 Ty.pl34_2)))) (aI (aI (aI Ty.fl34_3 Ty.pl34_3) (aI Ty.fl34_4 (aI Ty.pl34_4 Ty.fl34_5))) (aI (aI Ty.pl34_5 Ty.fl34_6) (aI Ty.pl34_6 (aI Ty.fl34_7 Ty.pl34_7))))) (aI (aI (aI (aI Ty.fl34_8 Ty.pl34_8) (aI Ty.sz79 (aI Ty.by79 Ty.ag79))) (aI (aI Ty.zr79 Ty.sz103) (aI Ty.by103 (aI Ty.ag103 Ty.zr103)))) (aI (aI (aI Ty.fl103_0 Ty.pl103_0) (aI Ty.fl103_1 (aI Ty.pl103_1 Ty.eq28))) (aI (aI Ty.eq31 Ty.eq103) (aI Ty.cb30 (aI Ty.cb31 Ty.cb32)))))))
theorem own_ok (x : E) (hf : Fit x) (bn : Nat) (n : Int) : Ok Tryz.prog 30 [vE x, ptr bn] [(bn, .c [vint n])] fun v bs rs => v = .tup [] ∧ bs = [(bn, .c [vint (eachM x n)])] ∧ rs = [] := by
  have hc := each_ok x hf bn n
  rw [vE, cE_eq] at hc ⊢
  refine Ok.of_ex Ty.mixed Tryz.func30 rfl (by simp [Tryz.ntmps30]) (by kernel_rfl) fun F w0 I0 => ?_
  simp only [↓rA, rB]
  refine fun b2 h2 => ?_; replace h2 := newb h2; try simp only [Nb] at h2
  simp only [↓rA, rB, Nat.reduceAdd, Nat.reduceEqDiff, tbLW2]
  refine OkF_with _ [] (List.Perm.of_eq (List.append_nil _).symm) (Ok.frame [_] hc) ?_
  rintro v bs rs ⟨bs1, rfl, _, rfl, rfl, rfl⟩
  simp only [↓rA, rB, Tryz.results30]
  exact ⟨_, [_], [], Le.refl _, List.Sublist.cons _ (List.Sublist.refl _), List.nil_sublist _, rfl, rfl, rfl⟩

/-! ### Uses, where the sets are small -/
theorem sortedK (K : List Str) (hK : K.length ≤ 1) (b1 bm : Nat) (hb : b1 ≠ bm ∧ bm ≠ b1) : Ok Tryz.prog 51 [fnK b1] [(b1, .c [mp bm]), (bm, mS K)] fun v bs rs => v = vstrs K ∧ bs = [(bm, mS K)] ∧ rs = [] := by
  match K, hK with
  | [], _ => exact sorted0 b1 bm hb
  | [k], _ => exact sorted1 k b1 bm hb
set_option linter.defProp false in
def tbLW3 := (aI (aI (aI (aI (aI (aI (aI Ty.sz3 Ty.by3) (aI Ty.ag3 (aI Ty.zr3 Ty.un3))) (aI (aI Ty.sz4 Ty.by4) (aI Ty.ag4 (aI Ty.zr4 Ty.un4)))) (aI (aI (aI Ty.sz9 Ty.by9) (aI Ty.ag9 (aI Ty.zr9 Ty.un9))) (aI (aI Ty.sz28 (aI Ty.by28 Ty.ag28)) (aI Ty.zr28 (aI Ty.fl28_0 Ty.pl28_0))))) (aI (aI (aI (aI Ty.fl28_1 Ty.pl28_1) (aI Ty.fl28_2 (aI Ty.pl28_2 Ty.sz29))) (aI (aI Ty.by29 Ty.ag29) (aI Ty.zr29 (aI Ty.un29 Ty.sz31)))) (aI (aI (aI Ty.by31 Ty.ag31) (aI Ty.zr31 (aI Ty.fl31_0 Ty.pl31_0))) (aI (aI Ty.fl31_1 (aI Ty.pl31_1 Ty.sz32)) (aI Ty.by32 (aI Ty.ag32 Ty.zr32)))))) (aI (aI (aI (aI (aI Ty.un32 Ty.sz34) (aI Ty.by34 (aI Ty.ag34 Ty.zr34))) (aI (aI Ty.fl34_0 Ty.pl34_0) (aI Ty.fl34_1 (aI Ty.pl34_1 Ty.fl34_2)))) (aI (aI (aI Ty.pl34_2 Ty.fl34_3) (aI Ty.pl34_3 (aI Ty.fl34_4 Ty.pl34_4))) (aI (aI Ty.fl34_5 (aI Ty.pl34_5 Ty.fl34_6)) (aI Ty.pl34_6 (aI Ty.fl34_7 Ty.pl34_7))))) (aI (aI (aI (aI Ty.fl34_8 Ty.pl34_8) (aI Ty.sz49 (aI Ty.by49 Ty.ag49))) (aI (aI Ty.zr49 (aI Ty.fl49_0 Ty.pl49_0)) (aI Ty.fl49_1 (aI Ty.pl49_1 Ty.fl49_2)))) (aI (aI (aI Ty.pl49_2 Ty.sz51) (aI Ty.by51 (aI Ty.ag51 Ty.zr51))) (aI (aI Ty.fl51_0 (aI Ty.pl51_0 Ty.fl51_1)) (aI Ty.pl51_1 (aI Ty.fl51_2 Ty.pl51_2))))))) (aI (aI (aI (aI (aI (aI Ty.fl51_3 Ty.pl51_3) (aI Ty.fl51_4 (aI Ty.pl51_4 Ty.sz53))) (aI (aI Ty.by53 Ty.ag53) (aI Ty.zr53 (aI Ty.fl53_0 Ty.pl53_0)))) (aI (aI (aI Ty.fl53_1 Ty.pl53_1) (aI Ty.sz54 (aI Ty.by54 Ty.ag54))) (aI (aI Ty.zr54 (aI Ty.un54 Ty.sz56)) (aI Ty.by56 (aI Ty.ag56 Ty.zr56))))) (aI (aI (aI (aI Ty.fl56_0 Ty.pl56_0) (aI Ty.fl56_1 (aI Ty.pl56_1 Ty.fl56_2))) (aI (aI Ty.pl56_2 (aI Ty.fl56_3 Ty.pl56_3)) (aI Ty.sz57 (aI Ty.by57 Ty.ag57)))) (aI (aI (aI Ty.zr57 Ty.un57) (aI Ty.sz58 (aI Ty.by58 Ty.ag58))) (aI (aI Ty.zr58 (aI Ty.un58 Ty.sz60)) (aI Ty.by60 (aI Ty.ag60 Ty.zr60)))))) (aI (aI (aI (aI (aI Ty.fl60_0 Ty.pl60_0) (aI Ty.fl60_1 (aI Ty.pl60_1 Ty.fl60_2))) (aI (aI Ty.pl60_2 Ty.fl60_3) (aI Ty.pl60_3 (aI Ty.sz78 Ty.by78)))) (aI (aI (aI Ty.ag78 Ty.zr78) (aI Ty.un78 (aI Ty.sz82 Ty.by82))) (aI (aI Ty.ag82 (aI Ty.sz95 Ty.by95)) (aI Ty.ag95 (aI Ty.zr95 Ty.un95))))) (aI (aI (aI (aI Ty.sz99 Ty.by99) (aI Ty.ag99 (aI Ty.zr99 Ty.sz103))) (aI (aI Ty.by103 (aI Ty.ag103 Ty.zr103)) (aI Ty.fl103_0 (aI Ty.pl103_0 Ty.fl103_1)))) (aI (aI (aI Ty.pl103_1 Ty.eq28) (aI Ty.eq31 (aI Ty.eq103 Ty.mp95))) (aI (aI Ty.cb30 (aI Ty.cb32 Ty.cb35)) (aI Ty.cb50 (aI Ty.cb51 Ty.cb52))))))))
theorem uses_none (c : Cat) (x : E) (hf : Fit x) (O : List Str) (hd : dirE x ([], []) = ([], O)) (hO : O.length ≤ 1) : OkP Tryz.prog 34 [vCat c, vE x] (.tup [vstrs [], vstrs O]) := by
  have hx := fun b1 b2 hb => direct_ok x hf ([], []) b1 b2 hb
  rw [hd] at hx
  simp only [vE, cE_eq x] at hx ⊢
  refine Ok.of_ex Ty.mixed Tryz.func34 rfl (by simp [Tryz.ntmps34]) (by kernel_rfl) fun F w0 I0 => ?_
  simp only [↓rA, rB]
  refine fun b2 h2 => ?_; replace h2 := newb h2; try simp only [Nb] at h2
  simp only [↓rA, rB, Nat.reduceEqDiff]
  refine fun b3 h3 => ?_; replace h3 := newb h3; try simp only [Nb] at h3
  simp only [↓rA, rB, Nat.reduceEqDiff, tbLW3]
  refine fun b6 h6 => ?_; replace h6 := newb h6; try simp only [Nb] at h6
  simp only [rB]
  refine fun b7 h7 => ?_; replace h7 := newb h7; try simp only [Nb] at h7
  simp only [rB, Nat.reduceAdd, Nat.reduceEqDiff, h6, h7]
  refine OkF_with [_, _] [_, _] (List.Perm.swap _ _ _) (hx b6 b7 ⟨h7.1.1, h7.1.2⟩) ?_
  rintro v bs rs ⟨rfl, rfl, rfl⟩
  simp only [↓rA, rB, Nat.reduceEqDiff, tbLW3]
  refine OkF_with [_] [_, _, _] (List.Perm.refl _) (keys_ok b6 _) ?_
  rintro v bs rs ⟨b1, hb1, rfl, rfl, rfl⟩
  simp only [↓rA, rB, Nat.reduceEqDiff, tbLW3]
  refine OkF_with [_, _] [_, _, _] (List.Perm.refl _) (sortedK [] (by simp) b1 b6 hb1) ?_
  rintro v bs rs ⟨rfl, rfl, rfl⟩
  simp only [↓rA, rB, Nat.reduceEqDiff, Tryz.results34]
  refine EX_while Ty.mixed (by kernel_rfl) (fun _ : Nat => 0) (fun _ S => S.boxes = [(b6, mS []), (b7, mS O), (b3, .c (cH x.hd (vEs x.args))), (b2, .c (cCat c))] ∧ S.rows = [] ∧ S.σ 6 = mp b6 ∧ S.σ 7 = mp b7 ∧ S.σ 8 = vstrs []) 0 ⟨0, ?_⟩ (fun _ S ⟨gb, gr, g6, g7, g8⟩ => ?_)
  · simp only [rB, Nat.reduceEqDiff]
  · simp only [↓rA, rB, Int.reduceLT, Nat.reduceEqDiff, tbLW3, gb, g6, g8]
    refine OkF_with [_] [_, _, _] (List.Perm.refl _) (keys_ok b6 _) ?_
    rintro v bs rs ⟨b1', hb1', rfl, rfl, rfl⟩
    simp only [↓rA, rB, tbLW3, gr]
    refine OkF_with [_, _] [_, _, _] (List.Perm.refl _) (sortedK [] (by simp) b1' b6 hb1') ?_
    rintro v bs rs ⟨rfl, rfl, rfl⟩
    simp only [↓rA, rB, Nat.reduceEqDiff, tbLW3, gr, g7]
    refine OkF_with [_] [_, _, _] (List.Perm.swap _ _ _) (keys_ok b7 _) ?_
    rintro v bs rs ⟨b8, hb8, rfl, rfl, rfl⟩
    simp only [↓rA, rB, tbLW3, gr]
    refine OkF_with [_, _] [_, _, _] (List.Perm.refl _) (sortedK O hO b8 b7 hb8) ?_
    rintro v bs rs ⟨rfl, rfl, rfl⟩
    simp only [↓rA, rB, Nat.reduceEqDiff, gr]
    exact ret_done rfl
set_option linter.defProp false in
def tbLW4 := (aI (aI (aI (aI (aI (aI (aI Ty.sz3 Ty.by3) (aI Ty.ag3 (aI Ty.zr3 Ty.un3))) (aI (aI Ty.sz4 Ty.by4) (aI Ty.ag4 (aI Ty.zr4 Ty.un4)))) (aI (aI (aI Ty.sz9 Ty.by9) (aI Ty.ag9 (aI Ty.zr9 Ty.un9))) (aI (aI Ty.sz28 (aI Ty.by28 Ty.ag28)) (aI Ty.zr28 (aI Ty.fl28_0 Ty.pl28_0))))) (aI (aI (aI (aI Ty.fl28_1 Ty.pl28_1) (aI Ty.fl28_2 (aI Ty.pl28_2 Ty.sz29))) (aI (aI Ty.by29 Ty.ag29) (aI Ty.zr29 (aI Ty.un29 Ty.sz31)))) (aI (aI (aI Ty.by31 Ty.ag31) (aI Ty.zr31 (aI Ty.fl31_0 Ty.pl31_0))) (aI (aI Ty.fl31_1 (aI Ty.pl31_1 Ty.sz32)) (aI Ty.by32 (aI Ty.ag32 Ty.zr32)))))) (aI (aI (aI (aI (aI Ty.un32 Ty.sz34) (aI Ty.by34 (aI Ty.ag34 Ty.zr34))) (aI (aI Ty.fl34_0 Ty.pl34_0) (aI Ty.fl34_1 (aI Ty.pl34_1 Ty.fl34_2)))) (aI (aI (aI Ty.pl34_2 Ty.fl34_3) (aI Ty.pl34_3 (aI Ty.fl34_4 Ty.pl34_4))) (aI (aI Ty.fl34_5 (aI Ty.pl34_5 Ty.fl34_6)) (aI Ty.pl34_6 (aI Ty.fl34_7 Ty.pl34_7))))) (aI (aI (aI (aI Ty.fl34_8 Ty.pl34_8) (aI Ty.sz49 (aI Ty.by49 Ty.ag49))) (aI (aI Ty.zr49 (aI Ty.fl49_0 Ty.pl49_0)) (aI Ty.fl49_1 (aI Ty.pl49_1 Ty.fl49_2)))) (aI (aI (aI Ty.pl49_2 Ty.sz51) (aI Ty.by51 (aI Ty.ag51 Ty.zr51))) (aI (aI Ty.fl51_0 (aI Ty.pl51_0 Ty.fl51_1)) (aI Ty.pl51_1 (aI Ty.fl51_2 Ty.pl51_2))))))) (aI (aI (aI (aI (aI (aI Ty.fl51_3 Ty.pl51_3) (aI Ty.fl51_4 (aI Ty.pl51_4 Ty.sz53))) (aI (aI Ty.by53 Ty.ag53) (aI Ty.zr53 (aI Ty.fl53_0 Ty.pl53_0)))) (aI (aI (aI Ty.fl53_1 Ty.pl53_1) (aI Ty.sz54 (aI Ty.by54 Ty.ag54))) (aI (aI Ty.zr54 (aI Ty.un54 Ty.sz56)) (aI Ty.by56 (aI Ty.ag56 Ty.zr56))))) (aI (aI (aI (aI Ty.fl56_0 Ty.pl56_0) (aI Ty.fl56_1 (aI Ty.pl56_1 Ty.fl56_2))) (aI (aI Ty.pl56_2 (aI Ty.fl56_3 Ty.pl56_3)) (aI Ty.sz57 (aI Ty.by57 Ty.ag57)))) (aI (aI (aI Ty.zr57 Ty.un57) (aI Ty.sz58 (aI Ty.by58 Ty.ag58))) (aI (aI Ty.zr58 (aI Ty.un58 Ty.sz60)) (aI Ty.by60 (aI Ty.ag60 Ty.zr60)))))) (aI (aI (aI (aI (aI Ty.fl60_0 Ty.pl60_0) (aI Ty.fl60_1 (aI Ty.pl60_1 Ty.fl60_2))) (aI (aI Ty.pl60_2 Ty.fl60_3) (aI Ty.pl60_3 (aI Ty.sz78 Ty.by78)))) (aI (aI (aI Ty.ag78 Ty.zr78) (aI Ty.un78 (aI Ty.sz82 Ty.by82))) (aI (aI Ty.ag82 (aI Ty.sz95 Ty.by95)) (aI Ty.ag95 (aI Ty.zr95 Ty.un95))))) (aI (aI (aI (aI Ty.sz99 Ty.by99) (aI Ty.ag99 (aI Ty.zr99 Ty.sz103))) (aI (aI Ty.by103 (aI Ty.ag103 Ty.zr103)) (aI Ty.fl103_0 (aI Ty.pl103_0 Ty.fl103_1)))) (aI (aI (aI Ty.pl103_1 Ty.eq28) (aI Ty.eq31 (aI Ty.eq103 Ty.mp95))) (aI (aI Ty.cb30 (aI Ty.cb32 Ty.cb35)) (aI Ty.cb50 (aI Ty.cb51 Ty.cb52))))))))
theorem uses_one (c : Cat) (x : E) (hf : Fit x) (hfe : c.features.length ≤ big) (f : Str) (g : Ftr) (hg : Fit g.body) (O O' : List Str) (hd : dirE x ([], []) = ([f], O)) (hfi : findF c.features f = some g) (hd' : dirE g.body ([], O) = ([], O')) (hO' : O'.length ≤ 1) : OkP Tryz.prog 34 [vCat c, vE x] (.tup [vstrs [f], vstrs O']) := by
  have hx := fun b1 b2 hb => direct_ok x hf ([], []) b1 b2 hb
  have hx' := fun b1 b2 hb => direct_ok g.body hg ([], O) b1 b2 hb
  rw [hd] at hx
  rw [hd'] at hx'
  have hfo := feature_ok c f hfe
  rw [hfi] at hfo
  simp only [vFind, cFtr_eq] at hfo
  simp only [vE, cE_eq x, cE_eq g.body] at hx hx' ⊢
  refine Ok.of_ex Ty.mixed Tryz.func34 rfl (by simp [Tryz.ntmps34]) (by kernel_rfl) fun F w0 I0 => ?_
  simp only [↓rA, rB]
  refine fun b2 h2 => ?_; replace h2 := newb h2; try simp only [Nb] at h2
  simp only [↓rA, rB, Nat.reduceEqDiff]
  refine fun b3 h3 => ?_; replace h3 := newb h3; try simp only [Nb] at h3
  simp only [↓rA, rB, Nat.reduceEqDiff, tbLW4]
  refine fun b6 h6 => ?_; replace h6 := newb h6; try simp only [Nb] at h6
  simp only [rB]
  refine fun b7 h7 => ?_; replace h7 := newb h7; try simp only [Nb] at h7
  simp only [rB, Nat.reduceAdd, Nat.reduceEqDiff, h6, h7]
  refine OkF_with [_, _] [_, _] (List.Perm.swap _ _ _) (hx b6 b7 ⟨h7.1.1, h7.1.2⟩) ?_
  rintro v bs rs ⟨rfl, rfl, rfl⟩
  simp only [↓rA, rB, Nat.reduceEqDiff, tbLW4]
  refine OkF_with [_] [_, _, _] (List.Perm.refl _) (keys_ok b6 _) ?_
  rintro v bs rs ⟨b1, hb1, rfl, rfl, rfl⟩
  simp only [↓rA, rB, Nat.reduceEqDiff, tbLW4]
  refine OkF_with [_, _] [_, _, _] (List.Perm.refl _) (sortedK [f] (by simp) b1 b6 hb1) ?_
  rintro v bs rs ⟨rfl, rfl, rfl⟩
  simp only [↓rA, rB, Nat.reduceEqDiff, Tryz.results34]
  refine EX_whileP Ty.mixed (by kernel_rfl) (fun t : Bool => if t then 0 else 1) (fun t S => (if t = true then S.boxes = [(b6, mS [f]), (b7, mS O'), (b3, .c (cH x.hd (vEs x.args))), (b2, .c (cCat c))] ∧ S.σ 8 = V.list none 1 [] else S.boxes = [(b6, mS [f]), (b7, mS O), (b3, .c (cH x.hd (vEs x.args))), (b2, .c (cCat c))] ∧ S.σ 8 = vstrs [f]) ∧ S.rows = [] ∧ S.σ 6 = mp b6 ∧ S.σ 7 = mp b7 ∧ S.σ 2 = ptr b2) false ⟨_, _, _, _, List.Sublist.refl _, List.Sublist.refl _, List.Perm.refl _, List.Perm.refl _, ?_⟩ (fun t S ⟨gx, gr, g6, g7, g2⟩ => ?_)
  · simp only [rB, Nat.reduceEqDiff]
  · cases t with
    | true =>
      simp only [if_true] at gx
      obtain ⟨gb, g8⟩ := gx
      simp only [↓rA, rB, Int.reduceLT, Nat.reduceEqDiff, tbLW4, gb, g6, g8]
      refine OkF_with [_] [_, _, _] (List.Perm.refl _) (keys_ok b6 _) ?_
      rintro v bs rs ⟨b1', hb1', rfl, rfl, rfl⟩
      simp only [↓rA, rB, tbLW4, gr]
      refine OkF_with [_, _] [_, _, _] (List.Perm.refl _) (sortedK [f] (by simp) b1' b6 hb1') ?_
      rintro v bs rs ⟨rfl, rfl, rfl⟩
      simp only [↓rA, rB, Nat.reduceEqDiff, tbLW4, gr, g7]
      refine OkF_with [_] [_, _, _] (List.Perm.swap _ _ _) (keys_ok b7 _) ?_
      rintro v bs rs ⟨b8, hb8, rfl, rfl, rfl⟩
      simp only [↓rA, rB, tbLW4, gr]
      refine OkF_with [_, _] [_, _, _] (List.Perm.refl _) (sortedK O' hO' b8 b7 hb8) ?_
      rintro v bs rs ⟨rfl, rfl, rfl⟩
      simp only [↓rA, rB, Nat.reduceEqDiff, gr]
      exact ret_done rfl
    | false =>
      simp only [Bool.false_eq_true, if_false] at gx
      obtain ⟨gb, g8⟩ := gx
      have i0 : (0 : Int) < ((1 : Nat) : Int) := by decide
      simp only [↓rA, rB, Int.reduceLE, Int.reduceToNat, Nat.reduceAdd, Nat.reduceEqDiff, Nat.reduceSub, tbLW4, gb, g8, g2, h3, h6, h7, i0]
      refine OkF_of _ hfo ?_
      simp only [↓rA, rB, Nat.reduceEqDiff, Nat.reduceSub, tbLW4, gr]
      refine fun b10 h10 => ?_; replace h10 := newb h10; try simp only [Nb] at h10
      simp only [↓rA, rB, Nat.reduceAdd, Nat.reduceEqDiff, Nat.reduceSub, tbLW4, gr]
      refine fun b12 h12 => ?_; replace h12 := newb h12; try simp only [Nb] at h12
      simp only [rB, Nat.reduceAdd, Nat.reduceEqDiff, Nat.reduceLeDiff, g7, h12]
      refine OkF_with [(b12, B.m ([Sh.s], false) [] 0), (b7, mS O)] [(b10, B.c (cF g g.body.hd (vEs g.body.args))), (b6, mS [f]), (b3, B.c (cH x.hd (vEs x.args))), (b2, B.c (cCat c))] (List.Perm.cons _ (List.perm_middle (l₁ := [_, _]) (l₂ := [_, _]))) (hx' b12 b7 ⟨h12.2.2.1.2, h12.2.2.1.1⟩) ?_
      rintro v bs rs ⟨rfl, rfl, rfl⟩
      simp only [↓rA, rB, Nat.reduceEqDiff, tbLW4, g7]
      refine fun ib hi => ?_; replace hi := newb hi; try simp only [Nb] at hi
      simp only [↓rA, rB, Nat.reduceEqDiff, g7]
      refine EX_whileP Ty.mixed (by kernel_rfl) (fun _ : Nat => 0) (fun _ S => S.boxes = [(ib, .it b12 0 [] 0), (b12, mS []), (b7, mS O'), (b10, B.c (cF g g.body.hd (vEs g.body.args))), (b6, mS [f]), (b3, B.c (cH x.hd (vEs x.args))), (b2, B.c (cCat c))] ∧ S.rows = [] ∧ S.σ 46 = ptr ib ∧ S.σ 6 = mp b6 ∧ S.σ 7 = mp b7 ∧ S.σ 2 = ptr b2 ∧ S.σ 8 = V.list none 1 []) 0 ⟨_, _, _, _, List.Sublist.refl _, List.Sublist.refl _, List.Perm.refl _, List.Perm.refl _, ?_⟩ (fun _ S ⟨gb, gr, g46, g6, g7, g2, g8⟩ => ?_)
      · simp only [rB, Nat.reduceEqDiff, g6, g7, g2]
      · simp only [↓rA, rB, gb, g46, hi]
        refine ⟨fun _ => ?_, fun e he => ?_⟩
        · simp only [↓rA, rB]
          refine ⟨true, by decide, [(b7, mS O'), (b6, mS [f]), (b3, B.c (cH x.hd (vEs x.args))), (b2, B.c (cCat c))], [], [(b6, mS [f]), (b7, mS O'), (b3, B.c (cH x.hd (vEs x.args))), (b2, B.c (cCat c))], [], ?_, List.nil_sublist _, List.Perm.swap _ _ _, List.Perm.refl _, ?_⟩
          · simp only [rB, gb]
            exact .cons _ (.cons _ (.cons_cons _ (.cons _ (List.Sublist.refl _))))
          simp only [rB, Nat.reduceEqDiff, g6, g7, g2, g8]
        · rw [left0] at he; cases he
end Go.Proofs.YtphkmlogjgeipaaGreatDoor

/- Contracts of lowering, part p: lower.Class where at most one feature is used. -/
set_option linter.unusedSimpArgs false
set_option maxRecDepth 100000
namespace Go.Proofs.YtphkmlogjgeipaaGreatDoor
open Go.VL Go.Ar Go.Lo Go.Proofs.YtphkmlogjgeipaaGreatDoor

set_option linter.defProp false in
def tbLX0 := (aI (aI (aI (aI (aI (aI (aI Ty.sz3 Ty.by3) (aI Ty.ag3 (aI Ty.zr3 Ty.un3))) (aI (aI Ty.sz4 Ty.by4) (aI Ty.ag4 (aI Ty.zr4 Ty.un4)))) (aI (aI (aI Ty.sz9 Ty.by9) (aI Ty.ag9 (aI Ty.zr9 Ty.un9))) (aI (aI Ty.sz28 Ty.by28) (aI Ty.ag28 (aI Ty.zr28 Ty.fl28_0))))) (aI (aI (aI (aI Ty.pl28_0 Ty.fl28_1) (aI Ty.pl28_1 (aI Ty.fl28_2 Ty.pl28_2))) (aI (aI Ty.sz29 Ty.by29) (aI Ty.ag29 (aI Ty.zr29 Ty.un29)))) (aI (aI (aI Ty.sz31 Ty.by31) (aI Ty.ag31 (aI Ty.zr31 Ty.fl31_0))) (aI (aI Ty.pl31_0 (aI Ty.fl31_1 Ty.pl31_1)) (aI Ty.sz32 (aI Ty.by32 Ty.ag32)))))) (aI (aI (aI (aI (aI Ty.zr32 Ty.un32) (aI Ty.sz34 (aI Ty.by34 Ty.ag34))) (aI (aI Ty.zr34 Ty.fl34_0) (aI Ty.pl34_0 (aI Ty.fl34_1 Ty.pl34_1)))) (aI (aI (aI Ty.fl34_2 Ty.pl34_2) (aI Ty.fl34_3 (aI Ty.pl34_3 Ty.fl34_4))) (aI (aI Ty.pl34_4 Ty.fl34_5) (aI Ty.pl34_5 (aI Ty.fl34_6 Ty.pl34_6))))) (aI (aI (aI (aI Ty.fl34_7 Ty.pl34_7) (aI Ty.fl34_8 (aI Ty.pl34_8 Ty.sz49))) (aI (aI Ty.by49 Ty.ag49) (aI Ty.zr49 (aI Ty.fl49_0 Ty.pl49_0)))) (aI (aI (aI Ty.fl49_1 Ty.pl49_1) (aI Ty.fl49_2 (aI Ty.pl49_2 Ty.sz51))) (aI (aI Ty.by51 (aI Ty.ag51 Ty.zr51)) (aI Ty.fl51_0 (aI Ty.pl51_0 Ty.fl51_1))))))) (aI (aI (aI (aI (aI (aI Ty.pl51_1 Ty.fl51_2) (aI Ty.pl51_2 (aI Ty.fl51_3 Ty.pl51_3))) (aI (aI Ty.fl51_4 Ty.pl51_4) (aI Ty.sz53 (aI Ty.by53 Ty.ag53)))) (aI (aI (aI Ty.zr53 Ty.fl53_0) (aI Ty.pl53_0 (aI Ty.fl53_1 Ty.pl53_1))) (aI (aI Ty.sz54 Ty.by54) (aI Ty.ag54 (aI Ty.zr54 Ty.un54))))) (aI (aI (aI (aI Ty.sz56 Ty.by56) (aI Ty.ag56 (aI Ty.zr56 Ty.fl56_0))) (aI (aI Ty.pl56_0 Ty.fl56_1) (aI Ty.pl56_1 (aI Ty.fl56_2 Ty.pl56_2)))) (aI (aI (aI Ty.fl56_3 Ty.pl56_3) (aI Ty.sz57 (aI Ty.by57 Ty.ag57))) (aI (aI Ty.zr57 (aI Ty.un57 Ty.sz58)) (aI Ty.by58 (aI Ty.ag58 Ty.zr58)))))) (aI (aI (aI (aI (aI Ty.un58 Ty.sz60) (aI Ty.by60 (aI Ty.ag60 Ty.zr60))) (aI (aI Ty.fl60_0 Ty.pl60_0) (aI Ty.fl60_1 (aI Ty.pl60_1 Ty.fl60_2)))) (aI (aI (aI Ty.pl60_2 Ty.fl60_3) (aI Ty.pl60_3 (aI Ty.sz78 Ty.by78))) (aI (aI Ty.ag78 (aI Ty.zr78 Ty.un78)) (aI Ty.sz79 (aI Ty.by79 Ty.ag79))))) (aI (aI (aI (aI Ty.zr79 Ty.sz80) (aI Ty.by80 (aI Ty.ag80 Ty.sz82))) (aI (aI Ty.by82 Ty.ag82) (aI Ty.sz103 (aI Ty.by103 Ty.ag103)))) (aI (aI (aI Ty.zr103 Ty.fl103_0) (aI Ty.pl103_0 (aI Ty.fl103_1 Ty.pl103_1))) (aI (aI Ty.eq28 (aI Ty.eq31 Ty.eq103)) (aI Ty.cb30 (aI Ty.cb34 Ty.cb35))))))))
theorem class_none (c : Cat) (x : E) (hf : Fit x) (O : List Str) (hu : OkP Tryz.prog 34 [vCat c, vE x] (.tup [vstrs [], vstrs O])) : OkP Tryz.prog 15 [vCat c, vE x] (vint (eachM x 0)) := by
  have ho := fun bn => own_ok x hf bn 0
  simp only [vE, cE_eq x] at ho hu ⊢
  refine Ok.of_ex Ty.mixed Tryz.func15 rfl (by simp [Tryz.ntmps15]) (by kernel_rfl) fun F w0 I0 => ?_
  simp only [↓rA, rB]
  refine fun b2 h2 => ?_; replace h2 := newb h2; try simp only [Nb] at h2
  simp only [↓rA, rB, Nat.reduceEqDiff]
  refine fun b3 h3 => ?_; replace h3 := newb h3; try simp only [Nb] at h3
  simp only [↓rA, rB, tbLX0]
  refine fun b4 h4 => ?_; replace h4 := newb h4; try simp only [Nb] at h4
  simp only [↓rA, rB, Nat.reduceAdd, Nat.reduceEqDiff, tbLX0, h4]
  refine OkF_with [_] [_, _] (List.Perm.refl _) (ho b4) ?_
  rintro v bs rs ⟨rfl, rfl, rfl⟩
  simp only [↓rA, rB, Nat.reduceAdd, Nat.reduceEqDiff, tbLX0, h3, h4]
  refine OkF_of _ hu ?_
  simp only [↓rA, rB, Nat.reduceEqDiff, tbLX0, Tryz.results15]
  refine EX_for Ty.mixed (by kernel_rfl) 0 (fun _ S => S.boxes = [(b4, .c [vint (eachM x 0)]), (b3, .c (cH x.hd (vEs x.args))), (b2, .c (cCat c))] ∧ S.rows = [] ∧ S.σ 4 = ptr b4 ∧ S.σ 22 = vstrs [] ∧ S.σ 23 = vint 0 ∧ S.σ 24 = vint 0) ⟨0, ?_⟩ (fun i S hi _ => absurd hi (Nat.not_lt_zero _)) (fun S ⟨gb, gr, g4, g22, g23, g24⟩ => ?_)
  · simp only [rB, Nat.reduceEqDiff]
  · simp only [↓rA, rB, Int.reduceLT, Nat.reduceEqDiff, tbLX0, gb, gr, g4, g23, g24]
    exact ret_done rfl
set_option linter.defProp false in
def tbLX1 := (aI (aI (aI (aI (aI (aI (aI Ty.sz3 Ty.by3) (aI Ty.ag3 (aI Ty.zr3 Ty.un3))) (aI (aI Ty.sz4 Ty.by4) (aI Ty.ag4 (aI Ty.zr4 Ty.un4)))) (aI (aI (aI Ty.sz9 Ty.by9) (aI Ty.ag9 (aI Ty.zr9 Ty.un9))) (aI (aI Ty.sz28 Ty.by28) (aI Ty.ag28 (aI Ty.zr28 Ty.fl28_0))))) (aI (aI (aI (aI Ty.pl28_0 Ty.fl28_1) (aI Ty.pl28_1 (aI Ty.fl28_2 Ty.pl28_2))) (aI (aI Ty.sz29 Ty.by29) (aI Ty.ag29 (aI Ty.zr29 Ty.un29)))) (aI (aI (aI Ty.sz31 Ty.by31) (aI Ty.ag31 (aI Ty.zr31 Ty.fl31_0))) (aI (aI Ty.pl31_0 (aI Ty.fl31_1 Ty.pl31_1)) (aI Ty.sz32 (aI Ty.by32 Ty.ag32)))))) (aI (aI (aI (aI (aI Ty.zr32 Ty.un32) (aI Ty.sz34 (aI Ty.by34 Ty.ag34))) (aI (aI Ty.zr34 Ty.fl34_0) (aI Ty.pl34_0 (aI Ty.fl34_1 Ty.pl34_1)))) (aI (aI (aI Ty.fl34_2 Ty.pl34_2) (aI Ty.fl34_3 (aI Ty.pl34_3 Ty.fl34_4))) (aI (aI Ty.pl34_4 Ty.fl34_5) (aI Ty.pl34_5 (aI Ty.fl34_6 Ty.pl34_6))))) (aI (aI (aI (aI Ty.fl34_7 Ty.pl34_7) (aI Ty.fl34_8 (aI Ty.pl34_8 Ty.sz49))) (aI (aI Ty.by49 Ty.ag49) (aI Ty.zr49 (aI Ty.fl49_0 Ty.pl49_0)))) (aI (aI (aI Ty.fl49_1 Ty.pl49_1) (aI Ty.fl49_2 (aI Ty.pl49_2 Ty.sz51))) (aI (aI Ty.by51 (aI Ty.ag51 Ty.zr51)) (aI Ty.fl51_0 (aI Ty.pl51_0 Ty.fl51_1))))))) (aI (aI (aI (aI (aI (aI Ty.pl51_1 Ty.fl51_2) (aI Ty.pl51_2 (aI Ty.fl51_3 Ty.pl51_3))) (aI (aI Ty.fl51_4 Ty.pl51_4) (aI Ty.sz53 (aI Ty.by53 Ty.ag53)))) (aI (aI (aI Ty.zr53 Ty.fl53_0) (aI Ty.pl53_0 (aI Ty.fl53_1 Ty.pl53_1))) (aI (aI Ty.sz54 Ty.by54) (aI Ty.ag54 (aI Ty.zr54 Ty.un54))))) (aI (aI (aI (aI Ty.sz56 Ty.by56) (aI Ty.ag56 (aI Ty.zr56 Ty.fl56_0))) (aI (aI Ty.pl56_0 Ty.fl56_1) (aI Ty.pl56_1 (aI Ty.fl56_2 Ty.pl56_2)))) (aI (aI (aI Ty.fl56_3 Ty.pl56_3) (aI Ty.sz57 (aI Ty.by57 Ty.ag57))) (aI (aI Ty.zr57 (aI Ty.un57 Ty.sz58)) (aI Ty.by58 (aI Ty.ag58 Ty.zr58)))))) (aI (aI (aI (aI (aI Ty.un58 Ty.sz60) (aI Ty.by60 (aI Ty.ag60 Ty.zr60))) (aI (aI Ty.fl60_0 Ty.pl60_0) (aI Ty.fl60_1 (aI Ty.pl60_1 Ty.fl60_2)))) (aI (aI (aI Ty.pl60_2 Ty.fl60_3) (aI Ty.pl60_3 (aI Ty.sz78 Ty.by78))) (aI (aI Ty.ag78 (aI Ty.zr78 Ty.un78)) (aI Ty.sz79 (aI Ty.by79 Ty.ag79))))) (aI (aI (aI (aI Ty.zr79 Ty.sz80) (aI Ty.by80 (aI Ty.ag80 Ty.sz82))) (aI (aI Ty.by82 Ty.ag82) (aI Ty.sz103 (aI Ty.by103 Ty.ag103)))) (aI (aI (aI Ty.zr103 Ty.fl103_0) (aI Ty.pl103_0 (aI Ty.fl103_1 Ty.pl103_1))) (aI (aI Ty.eq28 (aI Ty.eq31 Ty.eq103)) (aI Ty.cb30 (aI Ty.cb34 Ty.cb35))))))))
theorem class_one (c : Cat) (x : E) (hf : Fit x) (hfe : c.features.length ≤ big) (f : Str) (g : Ftr) (hg : Fit g.body) (hfi : findF c.features f = some g) (O : List Str) (hu : OkP Tryz.prog 34 [vCat c, vE x] (.tup [vstrs [f], vstrs O])) : OkP Tryz.prog 15 [vCat c, vE x] (vint (eachM g.body (eachM x 0))) := by
  have ho := fun bn => own_ok x hf bn 0
  have hq := fun bn => own_ok g.body hg bn (eachM x 0)
  have hfo := feature_ok c f hfe
  rw [hfi] at hfo
  simp only [vFind, cFtr_eq] at hfo
  simp only [vE, cE_eq x, cE_eq g.body] at ho hq hu ⊢
  refine Ok.of_ex Ty.mixed Tryz.func15 rfl (by simp [Tryz.ntmps15]) (by kernel_rfl) fun F w0 I0 => ?_
  simp only [↓rA, rB]
  refine fun b2 h2 => ?_; replace h2 := newb h2; try simp only [Nb] at h2
  simp only [↓rA, rB, Nat.reduceEqDiff]
  refine fun b3 h3 => ?_; replace h3 := newb h3; try simp only [Nb] at h3
  simp only [↓rA, rB, tbLX1]
  refine fun b4 h4 => ?_; replace h4 := newb h4; try simp only [Nb] at h4
  simp only [↓rA, rB, Nat.reduceAdd, Nat.reduceEqDiff, tbLX1, h4]
  refine OkF_with [_] [_, _] (List.Perm.refl _) (ho b4) ?_
  rintro v bs rs ⟨rfl, rfl, rfl⟩
  simp only [↓rA, rB, Nat.reduceAdd, Nat.reduceEqDiff, tbLX1, h3, h4]
  refine OkF_of _ hu ?_
  simp only [↓rA, rB, Nat.reduceEqDiff, tbLX1, Tryz.results15]
  refine EX_for Ty.mixed (by kernel_rfl) 1 (fun i S => S.boxes = [(b4, .c [vint (if i = 0 then eachM x 0 else eachM g.body (eachM x 0))]), (b3, .c (cH x.hd (vEs x.args))), (b2, .c (cCat c))] ∧ S.rows = [] ∧ S.σ 2 = ptr b2 ∧ S.σ 4 = ptr b4 ∧ S.σ 5 = fnO b4 ∧ S.σ 22 = vstrs [f] ∧ S.σ 23 = vint 1 ∧ S.σ 24 = vint i) ⟨0, ?_⟩ (fun i S hi ⟨gb, gr, g2, g4, g5, g22, g23, g24⟩ => ?_) (fun S ⟨gb, gr, g2, g4, g5, g22, g23, g24⟩ => ?_)
  · simp only [rB, Nat.reduceEqDiff]
    rfl
  · obtain rfl : i = 0 := by omega
    simp only [if_true] at gb
    have i0 : ((0 : Nat) : Int) < 1 := by decide
    simp only [↓rA, rB, Int.reduceLT, Int.reduceToNat, Nat.reduceAdd, Nat.reduceEqDiff, tbLX1, gb, g2, g22, g23, g24, h3, h4]
    refine OkF_of _ hfo ?_
    simp only [↓rA, rB, Nat.reduceEqDiff, tbLX1, gr]
    refine fun b10 h10 => ?_; replace h10 := newb h10; try simp only [Nb] at h10
    simp only [↓rA, rB, Nat.reduceAdd, Nat.reduceEqDiff, Nat.reduceLeDiff, tbLX1, gr, g5]
    refine OkF_with [_, _] [_, _] (List.Perm.refl _) (Ok.frame [_] (hq b4)) ?_
    rintro v bs rs ⟨bs1, rfl, _, rfl, rfl, rfl⟩
    simp only [↓rA, rB, Nat.reduceEqDiff, reduceCtorEq, gr, g2, g4, g5, g22, g23, g24]
    exact ⟨1, rfl, rfl⟩
  · simp only [Nat.one_ne_zero, if_false] at gb
    have i1 : ¬ ((1 : Nat) : Int) < 1 := by decide
    simp only [↓rA, rB, Nat.reduceEqDiff, tbLX1, gb, gr, g4, g23, g24, i1]
    exact ret_done rfl
end Go.Proofs.YtphkmlogjgeipaaGreatDoor

/- Contracts of lowering, part k: the reference's equalities. Printed by mkLO.py. -/
set_option linter.unusedSimpArgs false
set_option maxRecDepth 100000
namespace Go.Proofs.YtphkmlogjgeipaaGreatDoor
open Go.VL Go.Ar Go.Lo Go.Proofs.YtphkmlogjgeipaaGreatDoor

set_option linter.defProp false in
def tbLO0 := (aI (aI (aI (aI Ty.sz3 (aI Ty.by3 Ty.ag3)) (aI (aI Ty.zr3 Ty.un3) (aI Ty.sz4 Ty.by4))) (aI (aI Ty.ag4 (aI Ty.zr4 Ty.un4)) (aI (aI Ty.sz9 Ty.by9) (aI Ty.ag9 Ty.zr9)))) (aI (aI (aI Ty.un9 (aI Ty.sz29 Ty.by29)) (aI (aI Ty.ag29 Ty.zr29) (aI Ty.un29 Ty.sz103))) (aI (aI (aI Ty.by103 Ty.ag103) (aI Ty.zr103 Ty.fl103_0)) (aI (aI Ty.pl103_0 Ty.fl103_1) (aI Ty.pl103_1 Ty.eq103)))))
theorem same07_ok (u v : List Fac) (hu : u.length ≤ big) : OkP Tryz.prog 43 [vFacs u, vFacs v] (vbool (decide (u = v))) := by
  have fb : ∀ {a b : Bool}, a = b → V.lit (.bool a) = vbool b := fun h => by rw [h]
  unfold big at hu
  refine Ok.of_ex Ty.mixed Tryz.func43 rfl (by simp [Tryz.ntmps43]) (by kernel_rfl) fun F w0 I0 => ?_
  by_cases hl : ¬ u.length = v.length
  · have hl' : ¬ (u.length : Int) = v.length := by omega
    simp only [↓rA, rB, Nat.reduceEqDiff, reduceCtorEq, tbLO0, Tryz.results43, List.length_map, hl']
    exact ret_done (fb (decide_eq_false fun e => hl (by rw [e])).symm)
  have hl' : (u.length : Int) = v.length := by omega
  have hl : u.length = v.length := by omega
  simp only [↓rA, rB, Nat.reduceEqDiff, reduceCtorEq, tbLO0, Tryz.results43, List.length_map, hl']
  refine EX_for Ty.mixed (by kernel_rfl) v.length (fun i S => u.take i = v.take i ∧ S.boxes = [] ∧ S.rows = [] ∧ S.σ 0 = vFacs u ∧ S.σ 1 = vFacs v ∧ S.σ 5 = vint i) ⟨0, ?_⟩ (fun i S hi ⟨hf, gb, gr, g0, g1, g5⟩ => ?_) (fun S ⟨hf, gb, gr, g0, g1, g5⟩ => ?_)
  · simp only [rB, Nat.reduceEqDiff, reduceCtorEq]
    try exact rfl
  · have hwi := wrap_succ (i := i) (N := v.length) hi (by omega)
    have hiu : i < u.length := by omega
    simp only [↓rA, rB, Nat.reduceAdd, Nat.reduceEqDiff, reduceCtorEq, tbLO0, g0, g1, g5, hl', Int.ofNat_lt, hi, List.length_map, getD_map _ _ _ hi, getD_map _ _ _ hiu]
    refine onCond_splitb (fun hc => ?_) (fun hc => ?_)
    · simp only [↓rA, rB, gb, gr]
      refine ret_done (fb (decide_eq_false fun e => ?_).symm)
      subst e
      simp at hc
    · simp only [↓rA, rB, Nat.reduceEqDiff, reduceCtorEq, gb, gr, g0, g1, g5, hwi]
      refine ⟨0, ?_⟩
      rw [List.take_succ_eq_append_getElem hi, List.take_succ_eq_append_getElem hiu, hf]
      have : u[i] = v[i] := by
        rw [fac_ext]
        simpa using hc
      rw [this]
  · simp only [↓rA, rB, Nat.reduceEqDiff, reduceCtorEq, tbLO0, gb, gr, g0, g5, hl', List.length_map, Int.ofNat_lt, Nat.lt_irrefl]
    rw [List.take_of_length_le (Nat.le_refl _), List.take_of_length_le (by omega)] at hf
    exact ret_done (fb (decide_eq_true hf).symm)

set_option linter.defProp false in
def tbLO1 := (aI (aI (aI Ty.sz3 (aI Ty.by3 Ty.ag3)) (aI (aI Ty.zr3 Ty.un3) (aI Ty.sz4 Ty.by4))) (aI (aI (aI Ty.ag4 Ty.zr4) (aI Ty.un4 Ty.sz45)) (aI (aI Ty.by45 Ty.ag45) (aI Ty.zr45 Ty.un45))))
theorem sameInts_ok (u v : List Int) (hu : u.length ≤ big) : OkP Tryz.prog 61 [vints u, vints v] (vbool (decide (u = v))) := by
  have fb : ∀ {a b : Bool}, a = b → V.lit (.bool a) = vbool b := fun h => by rw [h]
  unfold big at hu
  refine Ok.of_ex Ty.mixed Tryz.func61 rfl (by simp [Tryz.ntmps61]) (by kernel_rfl) fun F w0 I0 => ?_
  by_cases hl : ¬ u.length = v.length
  · have hl' : ¬ (u.length : Int) = v.length := by omega
    simp only [↓rA, rB, Nat.reduceEqDiff, reduceCtorEq, tbLO1, Tryz.results61, List.length_map, hl']
    exact ret_done (fb (decide_eq_false fun e => hl (by rw [e])).symm)
  have hl' : (u.length : Int) = v.length := by omega
  have hl : u.length = v.length := by omega
  simp only [↓rA, rB, Nat.reduceEqDiff, reduceCtorEq, tbLO1, Tryz.results61, List.length_map, hl']
  refine EX_for Ty.mixed (by kernel_rfl) v.length (fun i S => u.take i = v.take i ∧ S.boxes = [] ∧ S.rows = [] ∧ S.σ 0 = vints u ∧ S.σ 1 = vints v ∧ S.σ 5 = vint i) ⟨0, ?_⟩ (fun i S hi ⟨hf, gb, gr, g0, g1, g5⟩ => ?_) (fun S ⟨hf, gb, gr, g0, g1, g5⟩ => ?_)
  · simp only [rB, Nat.reduceEqDiff, reduceCtorEq]
    try exact rfl
  · have hwi := wrap_succ (i := i) (N := v.length) hi (by omega)
    have hiu : i < u.length := by omega
    by_cases e : u[i] = v[i]
    · simp only [↓rA, rB, Nat.reduceEqDiff, reduceCtorEq, tbLO1, gb, gr, g0, g1, g5, hl', Int.ofNat_lt, hi, List.length_map, getD_map _ _ _ hi, getD_map _ _ _ hiu, e, hwi]
      exact ⟨0, by rw [List.take_succ_eq_append_getElem hi, List.take_succ_eq_append_getElem hiu, hf, e]⟩
    · simp only [↓rA, rB, Nat.reduceEqDiff, reduceCtorEq, tbLO1, gb, gr, g0, g1, g5, hl', Int.ofNat_lt, hi, List.length_map, getD_map _ _ _ hi, getD_map _ _ _ hiu, e]
      refine ret_done (fb (decide_eq_false fun e' => e ?_).symm)
      subst e'
      rfl
  · simp only [↓rA, rB, Nat.reduceEqDiff, reduceCtorEq, tbLO1, gb, gr, g0, g5, hl', List.length_map, Int.ofNat_lt, Nat.lt_irrefl]
    rw [List.take_of_length_le (Nat.le_refl _), List.take_of_length_le (by omega)] at hf
    exact ret_done (fb (decide_eq_true hf).symm)

set_option linter.defProp false in
def tbLO2 := (aI (aI (aI (aI (aI (aI Ty.sz3 Ty.by3) (aI Ty.ag3 Ty.zr3)) (aI (aI Ty.un3 Ty.sz4) (aI Ty.by4 (aI Ty.ag4 Ty.zr4)))) (aI (aI (aI Ty.un4 Ty.sz9) (aI Ty.by9 (aI Ty.ag9 Ty.zr9))) (aI (aI Ty.un9 Ty.sz28) (aI Ty.by28 (aI Ty.ag28 Ty.zr28))))) (aI (aI (aI (aI Ty.fl28_0 Ty.pl28_0) (aI Ty.fl28_1 Ty.pl28_1)) (aI (aI Ty.fl28_2 Ty.pl28_2) (aI Ty.sz29 (aI Ty.by29 Ty.ag29)))) (aI (aI (aI Ty.zr29 Ty.un29) (aI Ty.sz31 (aI Ty.by31 Ty.ag31))) (aI (aI Ty.zr31 Ty.fl31_0) (aI Ty.pl31_0 (aI Ty.fl31_1 Ty.pl31_1)))))) (aI (aI (aI (aI (aI Ty.sz32 Ty.by32) (aI Ty.ag32 Ty.zr32)) (aI (aI Ty.un32 Ty.sz34) (aI Ty.by34 (aI Ty.ag34 Ty.zr34)))) (aI (aI (aI Ty.fl34_0 Ty.pl34_0) (aI Ty.fl34_1 (aI Ty.pl34_1 Ty.fl34_2))) (aI (aI Ty.pl34_2 Ty.fl34_3) (aI Ty.pl34_3 (aI Ty.fl34_4 Ty.pl34_4))))) (aI (aI (aI (aI Ty.fl34_5 Ty.pl34_5) (aI Ty.fl34_6 (aI Ty.pl34_6 Ty.fl34_7))) (aI (aI Ty.pl34_7 Ty.fl34_8) (aI Ty.pl34_8 (aI Ty.sz103 Ty.by103)))) (aI (aI (aI Ty.ag103 Ty.zr103) (aI Ty.fl103_0 (aI Ty.pl103_0 Ty.fl103_1))) (aI (aI Ty.pl103_1 Ty.eq28) (aI Ty.eq31 (aI Ty.eq103 Ty.cb43)))))))
theorem flat_ok (a b : Hd) (x y : List E) (hu : a.unit.length ≤ big) : OkP Tryz.prog 26 [.agg (cH a (vEs x)), .agg (cH b (vEs y))] (vbool (decide (a = b))) := by
  have fb : ∀ {a b : Bool}, a = b → V.lit (.bool a) = vbool b := fun h => by rw [h]
  refine Ok.of_ex Ty.mixed Tryz.func26 rfl (by simp [Tryz.ntmps26]) (by kernel_rfl) fun F w0 I0 => ?_
  simp only [↓rA, rB]
  refine fun b1 h1 => ?_; replace h1 := newb h1; try simp only [Nb] at h1
  simp only [↓rA, rB, Nat.reduceEqDiff]
  refine fun b2 h2 => ?_; replace h2 := newb h2; try simp only [Nb] at h2
  by_cases e0 : a.kind = b.kind
  case neg =>
    simp only [↓rA, rB, Nat.reduceAdd, Nat.reduceEqDiff, tbLO2, Tryz.results26, h2, e0]
    exact ret_done (fb (decide_eq_false fun e => e0 (by rw [e])).symm)
  by_cases e1 : a.op = b.op
  case neg =>
    simp only [↓rA, rB, Nat.reduceAdd, Nat.reduceEqDiff, tbLO2, Tryz.results26, h2, e0, e1]
    exact ret_done (fb (decide_eq_false fun e => e1 (by rw [e])).symm)
  by_cases e2 : a.name = b.name
  case neg =>
    simp only [↓rA, rB, Nat.reduceAdd, Nat.reduceEqDiff, tbLO2, Tryz.results26, h2, e0, e1, e2]
    exact ret_done (fb (decide_eq_false fun e => e2 (by rw [e])).symm)
  by_cases e3 : a.table = b.table
  case neg =>
    simp only [↓rA, rB, Nat.reduceAdd, Nat.reduceEqDiff, tbLO2, Tryz.results26, h2, e0, e1, e2, e3]
    exact ret_done (fb (decide_eq_false fun e => e3 (by rw [e])).symm)
  have v4 := valEq a.val b.val
  have v7 := winEq a b
  by_cases e4 : a.val = b.val
  case neg =>
    simp only [↓rA, rB, Nat.reduceAdd, Nat.reduceEqDiff, Nat.reduceLeDiff, tbLO2, Tryz.results26, h2, e0, e1, e2, e3, e4, v4]
    exact ret_done (fb (decide_eq_false fun e => e4 (by rw [e])).symm)
  simp only [↓rA, rB, Nat.reduceAdd, Nat.reduceEqDiff, Nat.reduceLeDiff, tbLO2, h2, e0, e1, e2, e3, e4]
  refine OkF_of _ (same07_ok a.unit b.unit hu) ?_
  by_cases e5 : a.unit = b.unit
  case neg =>
    simp only [↓rA, rB, Nat.reduceEqDiff, Tryz.results26, e5]
    exact ret_done (fb (decide_eq_false fun e => e5 (by rw [e])).symm)
  by_cases e6 : a.param = b.param
  case neg =>
    simp only [↓rA, rB, Nat.reduceAdd, Nat.reduceEqDiff, tbLO2, Tryz.results26, h2, e5, e6]
    exact ret_done (fb (decide_eq_false fun e => e6 (by rw [e])).symm)
  by_cases e7 : a.wk = b.wk ∧ a.ws = b.ws
  case neg =>
    simp only [↓rA, rB, Nat.reduceAdd, Nat.reduceEqDiff, Nat.reduceLeDiff, tbLO2, Tryz.results26, h2, e5, e6, e7, v7]
    exact ret_done (fb (decide_eq_false fun e => e7 (by rw [e]; exact ⟨rfl, rfl⟩)).symm)
  simp only [↓rA, rB, Nat.reduceAdd, Nat.reduceEqDiff, Nat.reduceLeDiff, tbLO2, Tryz.results26, h2, e5, e6, e7]
  exact ret_done (fb (decide_eq_true (by rw [hd_ext]; exact ⟨e0, e1, e2, e3, by rw [e4]; exact ⟨rfl, rfl, rfl⟩, e5, e6, e7.1, e7.2⟩)).symm)

set_option linter.defProp false in
def tbLO3 := (aI (aI (aI (aI (aI (aI Ty.sz3 Ty.by3) (aI Ty.ag3 Ty.zr3)) (aI (aI Ty.un3 Ty.sz4) (aI Ty.by4 (aI Ty.ag4 Ty.zr4)))) (aI (aI (aI Ty.un4 Ty.sz9) (aI Ty.by9 (aI Ty.ag9 Ty.zr9))) (aI (aI Ty.un9 Ty.sz28) (aI Ty.by28 (aI Ty.ag28 Ty.zr28))))) (aI (aI (aI (aI Ty.fl28_0 Ty.pl28_0) (aI Ty.fl28_1 (aI Ty.pl28_1 Ty.fl28_2))) (aI (aI Ty.pl28_2 Ty.sz29) (aI Ty.by29 (aI Ty.ag29 Ty.zr29)))) (aI (aI (aI Ty.un29 Ty.sz31) (aI Ty.by31 (aI Ty.ag31 Ty.zr31))) (aI (aI Ty.fl31_0 Ty.pl31_0) (aI Ty.fl31_1 (aI Ty.pl31_1 Ty.sz32)))))) (aI (aI (aI (aI (aI Ty.by32 Ty.ag32) (aI Ty.zr32 Ty.un32)) (aI (aI Ty.sz34 Ty.by34) (aI Ty.ag34 (aI Ty.zr34 Ty.fl34_0)))) (aI (aI (aI Ty.pl34_0 Ty.fl34_1) (aI Ty.pl34_1 (aI Ty.fl34_2 Ty.pl34_2))) (aI (aI Ty.fl34_3 Ty.pl34_3) (aI Ty.fl34_4 (aI Ty.pl34_4 Ty.fl34_5))))) (aI (aI (aI (aI Ty.pl34_5 Ty.fl34_6) (aI Ty.pl34_6 (aI Ty.fl34_7 Ty.pl34_7))) (aI (aI Ty.fl34_8 Ty.pl34_8) (aI Ty.sz103 (aI Ty.by103 Ty.ag103)))) (aI (aI (aI Ty.zr103 Ty.fl103_0) (aI Ty.pl103_0 (aI Ty.fl103_1 Ty.pl103_1))) (aI (aI Ty.eq28 Ty.eq31) (aI Ty.eq103 (aI Ty.cb8 Ty.cb26)))))))
theorem sameExprR_ok : ∀ a : E, Fit a → ∀ b : E, OkP Tryz.prog 8 [vE a, vE b] (vbool (decide (a = b))) := by
  have fb : ∀ {a b : Bool}, a = b → V.lit (.bool a) = vbool b := fun h => by rw [h]
  intro x
  induction x using E.ind with
  | h a l ih =>
  intro hf y
  obtain ⟨b, m⟩ := y
  have hu := hf.unit
  have hl := hf.len
  have ha := hf.args
  simp only [E.args, E.hd, big] at hl ha hu
  rw [vE, vE, cE_mk, cE_mk]
  have no : a ≠ b → decide (E.mk a l = E.mk b m) = false := fun h => decide_eq_false fun e => h (by injection e)
  have no' : l ≠ m → decide (E.mk a l = E.mk b m) = false := fun h => decide_eq_false fun e => h (by injection e)
  refine Ok.of_ex Ty.mixed Tryz.func8 rfl (by simp [Tryz.ntmps8]) (by kernel_rfl) fun F w0 I0 => ?_
  simp only [↓rA, rB]
  refine fun b1 h1 => ?_; replace h1 := newb h1; try simp only [Nb] at h1
  simp only [↓rA, rB, Nat.reduceEqDiff]
  refine fun b2 h2 => ?_; replace h2 := newb h2; try simp only [Nb] at h2
  simp only [↓rA, rB, Nat.reduceAdd, Nat.reduceEqDiff, tbLO3, h2]
  refine OkF_of _ (flat_ok a b l m hu) ?_
  by_cases e0 : a = b
  case neg =>
    simp only [↓rA, rB, Nat.reduceEqDiff, Tryz.results8, decide_eq_false e0]
    exact ret_done (fb (no e0).symm)
  by_cases he : ¬ l.length = m.length
  · have he' : ¬ (l.length : Int) = m.length := by omega
    simp only [↓rA, rB, Nat.reduceAdd, Nat.reduceEqDiff, tbLO3, Tryz.results8, h2, decide_eq_true e0, List.length_map, he']
    exact ret_done (fb (no' fun e => he (by rw [e])).symm)
  have he' : (l.length : Int) = m.length := by omega
  simp only [↓rA, rB, Nat.reduceAdd, Nat.reduceEqDiff, tbLO3, Tryz.results8, h2, decide_eq_true e0, List.length_map, he']
  refine EX_for Ty.mixed (by kernel_rfl) m.length (fun i S => l.take i = m.take i ∧ S.boxes = [(b2, .c (cH b (vEs m))), (b1, .c (cH a (vEs l)))] ∧ S.rows = [] ∧ S.σ 2 = ptr b1 ∧ S.σ 3 = ptr b2 ∧ S.σ 5 = vint i) ⟨0, ?_⟩ (fun i S hi ⟨hq, gb, gr, g2, g3, g5⟩ => ?_) (fun S ⟨hq, gb, gr, g2, g3, g5⟩ => ?_)
  · simp only [rB, Nat.reduceEqDiff]
    try exact rfl
  · have hwi := wrap_succ (i := i) (N := m.length) hi (by omega)
    have hil : i < l.length := by omega
    simp only [↓rA, rB, Nat.reduceAdd, Nat.reduceEqDiff, tbLO3, gb, g2, g3, g5, h2, he', Int.ofNat_lt, hi, List.length_map, getD_map _ _ _ hi, getD_map _ _ _ hil, cE_eq]
    have hc := ih l[i] (List.getElem_mem hil) (ha _ (List.getElem_mem hil)) m[i]
    simp only [vE, cE_eq] at hc
    refine CallV_of _ hc.v ?_
    by_cases e : l[i] = m[i]
    · simp only [↓rA, rB, Nat.reduceEqDiff, gb, gr, g2, g3, g5, hwi, decide_eq_true e]
      exact ⟨0, by rw [List.take_succ_eq_append_getElem hi, List.take_succ_eq_append_getElem hil, hq, e], rfl⟩
    · simp only [↓rA, rB, gb, gr, decide_eq_false e]
      refine ret_done (fb (no' fun e' => e ?_).symm)
      subst e'
      rfl
  · simp only [↓rA, rB, Nat.reduceAdd, Nat.reduceEqDiff, tbLO3, gb, gr, g2, g5, h2, he', List.length_map, Int.ofNat_lt, Nat.lt_irrefl]
    rw [List.take_of_length_le (Nat.le_refl _), List.take_of_length_le (by omega)] at hq
    exact ret_done (fb (decide_eq_true (by rw [e0, hq])).symm)

set_option linter.defProp false in
def tbLO4 := (aI (aI (aI (aI (aI (aI Ty.sz3 (aI Ty.by3 Ty.ag3)) (aI Ty.zr3 (aI Ty.un3 Ty.sz4))) (aI (aI Ty.by4 (aI Ty.ag4 Ty.zr4)) (aI (aI Ty.un4 Ty.sz9) (aI Ty.by9 Ty.ag9)))) (aI (aI (aI Ty.zr9 (aI Ty.un9 Ty.sz28)) (aI Ty.by28 (aI Ty.ag28 Ty.zr28))) (aI (aI Ty.fl28_0 (aI Ty.pl28_0 Ty.fl28_1)) (aI (aI Ty.pl28_1 Ty.fl28_2) (aI Ty.pl28_2 Ty.sz29))))) (aI (aI (aI (aI Ty.by29 (aI Ty.ag29 Ty.zr29)) (aI Ty.un29 (aI Ty.sz31 Ty.by31))) (aI (aI Ty.ag31 (aI Ty.zr31 Ty.fl31_0)) (aI (aI Ty.pl31_0 Ty.fl31_1) (aI Ty.pl31_1 Ty.sz32)))) (aI (aI (aI Ty.by32 (aI Ty.ag32 Ty.zr32)) (aI Ty.un32 (aI Ty.sz34 Ty.by34))) (aI (aI Ty.ag34 (aI Ty.zr34 Ty.fl34_0)) (aI (aI Ty.pl34_0 Ty.fl34_1) (aI Ty.pl34_1 Ty.fl34_2)))))) (aI (aI (aI (aI (aI Ty.pl34_2 (aI Ty.fl34_3 Ty.pl34_3)) (aI Ty.fl34_4 (aI Ty.pl34_4 Ty.fl34_5))) (aI (aI Ty.pl34_5 (aI Ty.fl34_6 Ty.pl34_6)) (aI (aI Ty.fl34_7 Ty.pl34_7) (aI Ty.fl34_8 Ty.pl34_8)))) (aI (aI (aI Ty.sz45 (aI Ty.by45 Ty.ag45)) (aI Ty.zr45 (aI Ty.un45 Ty.sz47))) (aI (aI Ty.by47 (aI Ty.ag47 Ty.zr47)) (aI (aI Ty.fl47_0 Ty.pl47_0) (aI Ty.fl47_1 Ty.pl47_1))))) (aI (aI (aI (aI Ty.fl47_2 (aI Ty.pl47_2 Ty.fl47_3)) (aI Ty.pl47_3 (aI Ty.fl47_4 Ty.pl47_4))) (aI (aI Ty.fl47_5 (aI Ty.pl47_5 Ty.fl47_6)) (aI (aI Ty.pl47_6 Ty.fl47_7) (aI Ty.pl47_7 Ty.fl47_8)))) (aI (aI (aI Ty.pl47_8 (aI Ty.sz103 Ty.by103)) (aI (aI Ty.ag103 Ty.zr103) (aI Ty.fl103_0 Ty.pl103_0))) (aI (aI Ty.fl103_1 (aI Ty.pl103_1 Ty.eq28)) (aI (aI Ty.eq31 Ty.eq103) (aI Ty.cb8 Ty.cb61)))))))
theorem sameNodeR_ok (a b : Nd) (hf : FitN a) : OkP Tryz.prog 42 [.agg (cNd a), .agg (cNd b)] (vbool (decide (a = b))) := by
  have fb : ∀ {a b : Bool}, a = b → V.lit (.bool a) = vbool b := fun h => by rw [h]
  have hq := sameExprR_ok a.expr hf.1 b.expr
  simp only [vE, cE_eq] at hq
  simp only [cNd_eq]
  refine Ok.of_ex Ty.mixed Tryz.func42 rfl (by simp [Tryz.ntmps42]) (by kernel_rfl) fun F w0 I0 => ?_
  simp only [↓rA, rB]
  refine fun b1 h1 => ?_; replace h1 := newb h1; try simp only [Nb] at h1
  simp only [↓rA, rB, Nat.reduceEqDiff]
  refine fun b2 h2 => ?_; replace h2 := newb h2; try simp only [Nb] at h2
  by_cases e0 : a.kind = b.kind
  case neg =>
    simp only [↓rA, rB, Nat.reduceAdd, Nat.reduceEqDiff, tbLO4, Tryz.results42, h2, e0]
    exact ret_done (fb (decide_eq_false fun e => e0 (by rw [e])).symm)
  by_cases e1 : a.table = b.table
  case neg =>
    simp only [↓rA, rB, Nat.reduceAdd, Nat.reduceEqDiff, tbLO4, Tryz.results42, h2, e0, e1]
    exact ret_done (fb (decide_eq_false fun e => e1 (by rw [e])).symm)
  by_cases e2 : a.op = b.op
  case neg =>
    simp only [↓rA, rB, Nat.reduceAdd, Nat.reduceEqDiff, tbLO4, Tryz.results42, h2, e0, e1, e2]
    exact ret_done (fb (decide_eq_false fun e => e2 (by rw [e])).symm)
  by_cases e3 : a.param = b.param
  case neg =>
    simp only [↓rA, rB, Nat.reduceAdd, Nat.reduceEqDiff, tbLO4, Tryz.results42, h2, e0, e1, e2, e3]
    exact ret_done (fb (decide_eq_false fun e => e3 (by rw [e])).symm)
  have v4 := winEqN a b
  have v5 := valEq a.val b.val
  by_cases e4 : a.wk = b.wk ∧ a.ws = b.ws
  case neg =>
    simp only [↓rA, rB, Nat.reduceAdd, Nat.reduceEqDiff, Nat.reduceLeDiff, tbLO4, Tryz.results42, h2, e0, e1, e2, e3, e4, v4]
    exact ret_done (fb (decide_eq_false fun e => e4 (by rw [e]; exact ⟨rfl, rfl⟩)).symm)
  by_cases e5 : a.val = b.val
  case neg =>
    simp only [↓rA, rB, Nat.reduceAdd, Nat.reduceEqDiff, Nat.reduceLeDiff, tbLO4, Tryz.results42, h2, e0, e1, e2, e3, e4, e5, v5]
    exact ret_done (fb (decide_eq_false fun e => e5 (by rw [e])).symm)
  by_cases e6 : a.name = b.name
  case neg =>
    simp only [↓rA, rB, Nat.reduceAdd, Nat.reduceEqDiff, Nat.reduceLeDiff, tbLO4, Tryz.results42, h2, e0, e1, e2, e3, e4, e5, e6]
    exact ret_done (fb (decide_eq_false fun e => e6 (by rw [e])).symm)
  simp only [↓rA, rB, Nat.reduceAdd, Nat.reduceEqDiff, Nat.reduceLeDiff, tbLO4, h2, e0, e1, e2, e3, e4, e5, e6]
  refine OkF_of _ (sameInts_ok a.inn b.inn hf.2) ?_
  by_cases e7 : a.inn = b.inn
  case neg =>
    simp only [↓rA, rB, Nat.reduceEqDiff, Tryz.results42, e7]
    exact ret_done (fb (decide_eq_false fun e => e7 (by rw [e])).symm)
  simp only [↓rA, rB, Nat.reduceAdd, Nat.reduceEqDiff, Nat.reduceLeDiff, tbLO4, h2, e7]
  refine OkF_of _ hq ?_
  simp only [↓rA, rB, Nat.reduceEqDiff, Tryz.results42]
  refine ret_done (fb ?_)
  rw [Bool.eq_iff_iff, decide_eq_true_eq, decide_eq_true_eq, nd_ext]
  exact ⟨fun e => ⟨e0, e1, e2, e3, e4, e5, e6, e7, e⟩, fun e => e.2.2.2.2.2.2.2.2⟩

end Go.Proofs.YtphkmlogjgeipaaGreatDoor
/- Contracts of lowering, part q: the law's small functions. -/
set_option linter.unusedSimpArgs false
set_option maxRecDepth 100000
namespace Go.Lo
open Go.VL Go.Ar
abbrev hTT : Hd := { hd0 1 with val := ⟨1, 1, es0⟩ }
abbrev tt : E := .mk hTT []
abbrev sOrders : Str := ⟨#[111, 114, 100, 101, 114, 115]⟩
abbrev overE (op : Str) (x : E) : E := .mk ⟨5, op, es0, sOrders, val0, [], 0, 1, 0⟩ [x, tt]
abbrev binE (op : Str) (x y : E) : E := .mk { hd0 7 with op := op } [x, y]
mutual
def cntN : E → Nat
  | .mk h l => if h.kind = 5 then 1 else 1 + cntNs l
def cntNs : List E → Nat
  | [] => 0
  | x :: r => cntN x + cntNs r
end
mutual
def cntM : E → Nat
  | .mk h l => if h.kind = 5 then 1 else cntMs l
def cntMs : List E → Nat
  | [] => 0
  | x :: r => cntM x + cntMs r
end
theorem cntN_mk (h : Hd) (l : List E) : cntN (.mk h l) = if h.kind = 5 then 1 else 1 + cntNs l := by rw [cntN]
theorem cntM_mk (h : Hd) (l : List E) : cntM (.mk h l) = if h.kind = 5 then 1 else cntMs l := by rw [cntM]
theorem cntNs_append : ∀ (l m : List E), cntNs (l ++ m) = cntNs l + cntNs m
  | [], m => by simp [cntNs]
  | x :: r, m => by simp only [List.cons_append, cntNs, cntNs_append r m]; omega
theorem cntMs_append : ∀ (l m : List E), cntMs (l ++ m) = cntMs l + cntMs m
  | [], m => by simp [cntMs]
  | x :: r, m => by simp only [List.cons_append, cntMs, cntMs_append r m]; omega
theorem cnt_le (x : E) : cntN x ≤ sizeE x ∧ cntM x ≤ sizeE x := by
  induction x using E.ind with
  | h hd l ih =>
  have : cntNs l ≤ sizeEs l ∧ cntMs l ≤ sizeEs l := by
    clear hd
    induction l with
    | nil => simp [cntNs, cntMs]
    | cons x r ihr =>
      have h1 := ih x (by simp)
      have h2 := ihr fun y hy => ih y (List.mem_cons_of_mem _ hy)
      simp only [cntNs, cntMs, sizeEs]
      omega
  rw [cntN_mk, cntM_mk, sizeE_mk]
  split <;> omega
end Go.Lo
namespace Go.Proofs.YtphkmlogjgeipaaGreatDoor
open Go.VL Go.Ar Go.Lo Go.Proofs.YtphkmlogjgeipaaGreatDoor

theorem leE {h : Hd} {u a : V} {l : List E} (hu : Le u (vFacs h.unit)) (ha : Le a (vEs l)) : Le (.agg [vint h.kind, vstr h.op, vstr h.name, vstr h.table, vint h.val.kind, vint h.val.n, vstr h.val.s, u, vint h.param, vint h.wk, vint h.ws, a]) (vE (.mk h l)) := by
  rw [vE, cE_mk]
  exact leAgg (.cons (Le.refl _) (.cons (Le.refl _) (.cons (Le.refl _) (.cons (Le.refl _) (.cons (Le.refl _) (.cons (Le.refl _) (.cons (Le.refl _) (.cons hu (.cons (Le.refl _) (.cons (Le.refl _) (.cons (Le.refl _) (.cons ha .nil))))))))))))
set_option linter.defProp false in
def tbLY0 := (aI (aI (aI (aI (aI (aI Ty.sz3 Ty.by3) (aI Ty.ag3 Ty.zr3)) (aI (aI Ty.un3 Ty.sz9) (aI Ty.by9 Ty.ag9))) (aI (aI (aI Ty.zr9 Ty.un9) (aI Ty.sz28 Ty.by28)) (aI (aI Ty.ag28 Ty.zr28) (aI Ty.fl28_0 (aI Ty.pl28_0 Ty.fl28_1))))) (aI (aI (aI (aI Ty.pl28_1 Ty.fl28_2) (aI Ty.pl28_2 Ty.sz29)) (aI (aI Ty.by29 Ty.ag29) (aI Ty.zr29 (aI Ty.un29 Ty.sz31)))) (aI (aI (aI Ty.by31 Ty.ag31) (aI Ty.zr31 Ty.fl31_0)) (aI (aI Ty.pl31_0 Ty.fl31_1) (aI Ty.pl31_1 (aI Ty.sz32 Ty.by32)))))) (aI (aI (aI (aI (aI Ty.ag32 Ty.zr32) (aI Ty.un32 Ty.sz34)) (aI (aI Ty.by34 Ty.ag34) (aI Ty.zr34 (aI Ty.fl34_0 Ty.pl34_0)))) (aI (aI (aI Ty.fl34_1 Ty.pl34_1) (aI Ty.fl34_2 Ty.pl34_2)) (aI (aI Ty.fl34_3 Ty.pl34_3) (aI Ty.fl34_4 (aI Ty.pl34_4 Ty.fl34_5))))) (aI (aI (aI (aI Ty.pl34_5 Ty.fl34_6) (aI Ty.pl34_6 Ty.fl34_7)) (aI (aI Ty.pl34_7 Ty.fl34_8) (aI Ty.pl34_8 (aI Ty.sz103 Ty.by103)))) (aI (aI (aI Ty.ag103 Ty.zr103) (aI Ty.fl103_0 Ty.pl103_0)) (aI (aI Ty.fl103_1 Ty.pl103_1) (aI Ty.eq28 (aI Ty.eq31 Ty.eq103)))))))
theorem true_ok : OkP Tryz.prog 12 [] (vE tt) := by
  refine Ok.of_ex Ty.mixed Tryz.func12 rfl (by simp [Tryz.ntmps12]) (by kernel_rfl) fun F w0 I0 => ?_
  simp only [↓rA, rB, tbLY0]
  refine fun b0 h0 => ?_; replace h0 := newb h0; try simp only [Nb] at h0
  simp only [↓rA, rB, Nat.reduceAdd, Nat.reduceLeDiff, reduceCtorEq, tbLY0, Tryz.results12]
  exact ⟨_, [], [], leE (h := hTT) (l := []) (Le.nil 2) (Le.nil 12), List.nil_sublist _, List.nil_sublist _, rfl, rfl, rfl⟩
set_option linter.defProp false in
def tbLY1 := (aI (aI (aI (aI (aI (aI Ty.sz3 Ty.by3) (aI Ty.ag3 Ty.zr3)) (aI (aI Ty.un3 Ty.sz9) (aI Ty.by9 Ty.ag9))) (aI (aI (aI Ty.zr9 Ty.un9) (aI Ty.sz28 Ty.by28)) (aI (aI Ty.ag28 Ty.zr28) (aI Ty.fl28_0 (aI Ty.pl28_0 Ty.fl28_1))))) (aI (aI (aI (aI Ty.pl28_1 Ty.fl28_2) (aI Ty.pl28_2 Ty.sz29)) (aI (aI Ty.by29 Ty.ag29) (aI Ty.zr29 (aI Ty.un29 Ty.sz31)))) (aI (aI (aI Ty.by31 Ty.ag31) (aI Ty.zr31 Ty.fl31_0)) (aI (aI Ty.pl31_0 Ty.fl31_1) (aI Ty.pl31_1 (aI Ty.sz32 Ty.by32)))))) (aI (aI (aI (aI (aI Ty.ag32 Ty.zr32) (aI Ty.un32 Ty.sz34)) (aI (aI Ty.by34 Ty.ag34) (aI Ty.zr34 (aI Ty.fl34_0 Ty.pl34_0)))) (aI (aI (aI Ty.fl34_1 Ty.pl34_1) (aI Ty.fl34_2 Ty.pl34_2)) (aI (aI Ty.fl34_3 Ty.pl34_3) (aI Ty.fl34_4 (aI Ty.pl34_4 Ty.fl34_5))))) (aI (aI (aI (aI Ty.pl34_5 Ty.fl34_6) (aI Ty.pl34_6 Ty.fl34_7)) (aI (aI Ty.pl34_7 Ty.fl34_8) (aI Ty.pl34_8 (aI Ty.sz103 Ty.by103)))) (aI (aI (aI Ty.ag103 Ty.zr103) (aI Ty.fl103_0 Ty.pl103_0)) (aI (aI Ty.fl103_1 Ty.pl103_1) (aI Ty.eq28 (aI Ty.eq31 Ty.eq103)))))))
theorem binary_ok (op : Str) (x y : E) : OkP Tryz.prog 14 [vstr op, vE x, vE y] (vE (binE op x y)) := by
  simp only [vE, cE_eq x, cE_eq y]
  refine Ok.of_ex Ty.mixed Tryz.func14 rfl (by simp [Tryz.ntmps14]) (by kernel_rfl) fun F w0 I0 => ?_
  simp only [↓rA, rB]
  refine fun b4 h4 => ?_; replace h4 := newb h4; try simp only [Nb] at h4
  simp only [↓rA, rB, Nat.reduceEqDiff]
  refine fun b5 h5 => ?_; replace h5 := newb h5; try simp only [Nb] at h5
  simp only [↓rA, rB, tbLY1]
  refine fun b6 h6 => ?_; replace h6 := newb h6; try simp only [Nb] at h6
  simp only [↓rA, rB, Nat.reduceAdd, Nat.reduceEqDiff, Nat.reduceLT, Nat.reduceLeDiff, Nat.reduceMul, reduceCtorEq, tbLY1, Tryz.results14, h5, h6]
  refine fun y' => ⟨_, [], [], leE (h := { hd0 7 with op := op }) (l := [x, y]) (Le.nil 2) ?_, List.nil_sublist _, List.nil_sublist _, rfl, rfl, rfl⟩
  simp only [vEs, List.map_cons, List.map_nil, cE_eq x, cE_eq y]
  exact Le.list _ _ _
set_option linter.defProp false in
def tbLY2 := (aI (aI (aI (aI (aI (aI Ty.sz3 Ty.by3) (aI Ty.ag3 Ty.zr3)) (aI (aI Ty.un3 Ty.sz9) (aI Ty.by9 (aI Ty.ag9 Ty.zr9)))) (aI (aI (aI Ty.un9 Ty.sz28) (aI Ty.by28 Ty.ag28)) (aI (aI Ty.zr28 Ty.fl28_0) (aI Ty.pl28_0 (aI Ty.fl28_1 Ty.pl28_1))))) (aI (aI (aI (aI Ty.fl28_2 Ty.pl28_2) (aI Ty.sz29 Ty.by29)) (aI (aI Ty.ag29 Ty.zr29) (aI Ty.un29 (aI Ty.sz31 Ty.by31)))) (aI (aI (aI Ty.ag31 Ty.zr31) (aI Ty.fl31_0 Ty.pl31_0)) (aI (aI Ty.fl31_1 Ty.pl31_1) (aI Ty.sz32 (aI Ty.by32 Ty.ag32)))))) (aI (aI (aI (aI (aI Ty.zr32 Ty.un32) (aI Ty.sz34 Ty.by34)) (aI (aI Ty.ag34 Ty.zr34) (aI Ty.fl34_0 (aI Ty.pl34_0 Ty.fl34_1)))) (aI (aI (aI Ty.pl34_1 Ty.fl34_2) (aI Ty.pl34_2 Ty.fl34_3)) (aI (aI Ty.pl34_3 Ty.fl34_4) (aI Ty.pl34_4 (aI Ty.fl34_5 Ty.pl34_5))))) (aI (aI (aI (aI Ty.fl34_6 Ty.pl34_6) (aI Ty.fl34_7 Ty.pl34_7)) (aI (aI Ty.fl34_8 Ty.pl34_8) (aI Ty.sz103 (aI Ty.by103 Ty.ag103)))) (aI (aI (aI Ty.zr103 Ty.fl103_0) (aI Ty.pl103_0 Ty.fl103_1)) (aI (aI Ty.pl103_1 Ty.eq28) (aI Ty.eq31 (aI Ty.eq103 Ty.cb12)))))))
theorem over_ok (op : Str) (x : E) : OkP Tryz.prog 11 [vstr op, vE x] (vE (overE op x)) := by
  have ht := true_ok
  simp only [vE, cE_eq x, cE_eq tt] at ht ⊢
  refine Ok.of_ex Ty.mixed Tryz.func11 rfl (by simp [Tryz.ntmps11]) (by kernel_rfl) fun F w0 I0 => ?_
  simp only [↓rA, rB]
  refine fun b3 h3 => ?_; replace h3 := newb h3; try simp only [Nb] at h3
  simp only [↓rA, rB, tbLY2]
  refine fun b4 h4 => ?_; replace h4 := newb h4; try simp only [Nb] at h4
  simp only [↓rA, rB, Nat.reduceAdd, Nat.reduceEqDiff, Nat.reduceLeDiff, reduceCtorEq, tbLY2, h4]
  refine CallV_of _ ht.v ?_
  simp only [↓rA, rB, Nat.reduceAdd, Nat.reduceEqDiff, Nat.reduceLT, Nat.reduceLeDiff, Nat.reduceMul, tbLY2, Tryz.results11]
  refine ⟨_, [], [], leE (h := ⟨5, op, es0, sOrders, val0, [], 0, 1, 0⟩) (l := [x, tt]) (Le.nil 2) ?_, List.nil_sublist _, List.nil_sublist _, rfl, rfl, rfl⟩
  simp only [vEs, List.map_cons, List.map_nil, cE_eq x, cE_eq tt]
  first | exact Le.refl _ | exact Le.list _ _ _
set_option linter.defProp false in
def tbLY3 := (aI (aI (aI (aI (aI (aI Ty.sz3 (aI Ty.by3 Ty.ag3)) (aI (aI Ty.zr3 Ty.un3) (aI Ty.sz4 Ty.by4))) (aI (aI Ty.ag4 (aI Ty.zr4 Ty.un4)) (aI (aI Ty.sz9 Ty.by9) (aI Ty.ag9 Ty.zr9)))) (aI (aI (aI Ty.un9 (aI Ty.sz22 Ty.by22)) (aI (aI Ty.ag22 Ty.zr22) (aI Ty.un22 Ty.sz24))) (aI (aI Ty.by24 (aI Ty.ag24 Ty.zr24)) (aI (aI Ty.fl24_0 Ty.pl24_0) (aI Ty.sz28 Ty.by28))))) (aI (aI (aI (aI Ty.ag28 (aI Ty.zr28 Ty.fl28_0)) (aI (aI Ty.pl28_0 Ty.fl28_1) (aI Ty.pl28_1 Ty.fl28_2))) (aI (aI Ty.pl28_2 (aI Ty.sz29 Ty.by29)) (aI (aI Ty.ag29 Ty.zr29) (aI Ty.un29 Ty.sz31)))) (aI (aI (aI Ty.by31 (aI Ty.ag31 Ty.zr31)) (aI (aI Ty.fl31_0 Ty.pl31_0) (aI Ty.fl31_1 Ty.pl31_1))) (aI (aI (aI Ty.sz32 Ty.by32) (aI Ty.ag32 Ty.zr32)) (aI (aI Ty.un32 Ty.sz34) (aI Ty.by34 Ty.ag34)))))) (aI (aI (aI (aI (aI Ty.zr34 (aI Ty.fl34_0 Ty.pl34_0)) (aI (aI Ty.fl34_1 Ty.pl34_1) (aI Ty.fl34_2 Ty.pl34_2))) (aI (aI Ty.fl34_3 (aI Ty.pl34_3 Ty.fl34_4)) (aI (aI Ty.pl34_4 Ty.fl34_5) (aI Ty.pl34_5 Ty.fl34_6)))) (aI (aI (aI Ty.pl34_6 (aI Ty.fl34_7 Ty.pl34_7)) (aI (aI Ty.fl34_8 Ty.pl34_8) (aI Ty.sz45 Ty.by45))) (aI (aI (aI Ty.ag45 Ty.zr45) (aI Ty.un45 Ty.sz47)) (aI (aI Ty.by47 Ty.ag47) (aI Ty.zr47 Ty.fl47_0))))) (aI (aI (aI (aI Ty.pl47_0 (aI Ty.fl47_1 Ty.pl47_1)) (aI (aI Ty.fl47_2 Ty.pl47_2) (aI Ty.fl47_3 Ty.pl47_3))) (aI (aI Ty.fl47_4 (aI Ty.pl47_4 Ty.fl47_5)) (aI (aI Ty.pl47_5 Ty.fl47_6) (aI Ty.pl47_6 Ty.fl47_7)))) (aI (aI (aI Ty.pl47_7 (aI Ty.fl47_8 Ty.pl47_8)) (aI (aI Ty.sz103 Ty.by103) (aI Ty.ag103 Ty.zr103))) (aI (aI (aI Ty.fl103_0 Ty.pl103_0) (aI Ty.fl103_1 Ty.pl103_1)) (aI (aI Ty.eq28 Ty.eq31) (aI Ty.eq103 Ty.cb42)))))))
theorem sameG_ok (u v : List Nd) (hu : u.length ≤ big) (hf : ∀ n ∈ u, FitN n) : OkP Tryz.prog 25 [vG u, vG v] (vbool (decide (u = v))) := by
  have fb : ∀ {a b : Bool}, a = b → V.lit (.bool a) = vbool b := fun h => by rw [h]
  unfold big at hu
  refine Ok.of_ex Ty.mixed Tryz.func25 rfl (by simp [Tryz.ntmps25]) (by kernel_rfl) fun F w0 I0 => ?_
  simp only [↓rA, rB]
  refine fun b2 h2 => ?_; replace h2 := newb h2; try simp only [Nb] at h2
  simp only [↓rA, rB, Nat.reduceEqDiff]
  refine fun b3 h3 => ?_; replace h3 := newb h3; try simp only [Nb] at h3
  by_cases hl : ¬ u.length = v.length
  · have hl' : ¬ (u.length : Int) = v.length := by omega
    simp only [↓rA, rB, Nat.reduceAdd, Nat.reduceEqDiff, tbLY3, Tryz.results25, h3, List.length_map, hl']
    exact ret_done (fb (decide_eq_false fun e => hl (by rw [e])).symm)
  have hl' : (u.length : Int) = v.length := by omega
  have hl : u.length = v.length := by omega
  simp only [↓rA, rB, Nat.reduceAdd, Nat.reduceEqDiff, tbLY3, Tryz.results25, h3, List.length_map, hl']
  refine EX_for Ty.mixed (by kernel_rfl) v.length (fun i S => u.take i = v.take i ∧ S.boxes = [(b3, .c [vNds v]), (b2, .c [vNds u])] ∧ S.rows = [] ∧ S.σ 2 = ptr b2 ∧ S.σ 3 = ptr b3 ∧ S.σ 5 = vint i) ⟨0, ?_⟩ (fun i S hi ⟨hq, gb, gr, g2, g3, g5⟩ => ?_) (fun S ⟨hq, gb, gr, g2, g3, g5⟩ => ?_)
  · simp only [rB, Nat.reduceEqDiff]
    try exact rfl
  · have hwi := wrap_succ (i := i) (N := v.length) hi (by omega)
    have hiu : i < u.length := by omega
    have hc := sameNodeR_ok u[i] v[i] (hf _ (List.getElem_mem hiu))
    simp only [cNd_eq] at hc
    simp only [↓rA, rB, Nat.reduceAdd, Nat.reduceEqDiff, tbLY3, gb, g2, g3, g5, h3, hl', Int.ofNat_lt, hi, List.length_map, getD_map _ _ _ hi, getD_map _ _ _ hiu, cNd_eq]
    refine CallV_of _ hc.v ?_
    by_cases e : u[i] = v[i]
    · simp only [↓rA, rB, Nat.reduceEqDiff, gb, gr, g2, g3, g5, e, hwi]
      exact ⟨0, by rw [List.take_succ_eq_append_getElem hi, List.take_succ_eq_append_getElem hiu, hq, e], rfl⟩
    · simp only [↓rA, rB, gb, gr, e]
      refine ret_done (fb (decide_eq_false fun e' => e ?_).symm)
      subst e'
      rfl
  · simp only [↓rA, rB, Nat.reduceAdd, Nat.reduceEqDiff, tbLY3, gb, gr, g2, g5, h3, hl', List.length_map, Int.ofNat_lt, Nat.lt_irrefl]
    rw [List.take_of_length_le (Nat.le_refl _), List.take_of_length_le (by omega)] at hq
    exact ret_done (fb (decide_eq_true hq).symm)
/-- The kinds of nodes, as the law writes them. -/
def kindsM (l : List Nd) (s : Str) : Str := l.foldl (fun s n => s ++ strOf [IntKind.u8.wrap (IntKind.i64.wrap (48 + n.kind))]) s
theorem kindsM_size : ∀ (l : List Nd) (s : Str), ByteArray.size (kindsM l s) = ByteArray.size s + l.length
  | [], s => rfl
  | n :: r, s => by
    have h := kindsM_size r (s ++ strOf [IntKind.u8.wrap (IntKind.i64.wrap (48 + n.kind))])
    rw [show kindsM (n :: r) s = kindsM r (s ++ strOf [IntKind.u8.wrap (IntKind.i64.wrap (48 + n.kind))]) from rfl, h, ByteArray.size_append, List.length_cons]
    have : ByteArray.size (strOf [IntKind.u8.wrap (IntKind.i64.wrap (48 + n.kind))]) = 1 := rfl
    omega
theorem kindsM_snoc (l : List Nd) (n : Nd) (s : Str) : kindsM (l ++ [n]) s = kindsM l s ++ strOf [IntKind.u8.wrap (IntKind.i64.wrap (48 + n.kind))] := by
  rw [kindsM, List.foldl_append]; rfl
set_option linter.defProp false in
def tbLY4 := (aI (aI (aI (aI (aI (aI (aI Ty.sz3 Ty.by3) (aI Ty.ag3 Ty.zr3)) (aI (aI Ty.un3 Ty.sz4) (aI Ty.by4 Ty.ag4))) (aI (aI (aI Ty.zr4 Ty.un4) (aI Ty.sz5 Ty.by5)) (aI (aI Ty.ag5 Ty.zr5) (aI Ty.un5 Ty.sz9)))) (aI (aI (aI (aI Ty.by9 Ty.ag9) (aI Ty.zr9 Ty.un9)) (aI (aI Ty.sz22 Ty.by22) (aI Ty.ag22 Ty.zr22))) (aI (aI (aI Ty.un22 Ty.sz24) (aI Ty.by24 Ty.ag24)) (aI (aI Ty.zr24 Ty.fl24_0) (aI Ty.pl24_0 (aI Ty.sz28 Ty.by28)))))) (aI (aI (aI (aI (aI Ty.ag28 Ty.zr28) (aI Ty.fl28_0 Ty.pl28_0)) (aI (aI Ty.fl28_1 Ty.pl28_1) (aI Ty.fl28_2 Ty.pl28_2))) (aI (aI (aI Ty.sz29 Ty.by29) (aI Ty.ag29 Ty.zr29)) (aI (aI Ty.un29 Ty.sz31) (aI Ty.by31 Ty.ag31)))) (aI (aI (aI (aI Ty.zr31 Ty.fl31_0) (aI Ty.pl31_0 Ty.fl31_1)) (aI (aI Ty.pl31_1 Ty.sz32) (aI Ty.by32 Ty.ag32))) (aI (aI (aI Ty.zr32 Ty.un32) (aI Ty.sz34 Ty.by34)) (aI (aI Ty.ag34 Ty.zr34) (aI Ty.fl34_0 (aI Ty.pl34_0 Ty.fl34_1))))))) (aI (aI (aI (aI (aI (aI Ty.pl34_1 Ty.fl34_2) (aI Ty.pl34_2 Ty.fl34_3)) (aI (aI Ty.pl34_3 Ty.fl34_4) (aI Ty.pl34_4 Ty.fl34_5))) (aI (aI (aI Ty.pl34_5 Ty.fl34_6) (aI Ty.pl34_6 Ty.fl34_7)) (aI (aI Ty.pl34_7 Ty.fl34_8) (aI Ty.pl34_8 Ty.sz35)))) (aI (aI (aI (aI Ty.by35 Ty.ag35) (aI Ty.zr35 Ty.un35)) (aI (aI Ty.sz42 Ty.by42) (aI Ty.ag42 Ty.sz45))) (aI (aI (aI Ty.by45 Ty.ag45) (aI Ty.zr45 Ty.un45)) (aI (aI Ty.sz47 Ty.by47) (aI Ty.ag47 (aI Ty.zr47 Ty.fl47_0)))))) (aI (aI (aI (aI (aI Ty.pl47_0 Ty.fl47_1) (aI Ty.pl47_1 Ty.fl47_2)) (aI (aI Ty.pl47_2 Ty.fl47_3) (aI Ty.pl47_3 Ty.fl47_4))) (aI (aI (aI Ty.pl47_4 Ty.fl47_5) (aI Ty.pl47_5 Ty.fl47_6)) (aI (aI Ty.pl47_6 Ty.fl47_7) (aI Ty.pl47_7 (aI Ty.fl47_8 Ty.pl47_8))))) (aI (aI (aI (aI Ty.sz84 Ty.by84) (aI Ty.ag84 Ty.zr84)) (aI (aI Ty.un84 Ty.sz103) (aI Ty.by103 Ty.ag103))) (aI (aI (aI Ty.zr103 Ty.fl103_0) (aI Ty.pl103_0 Ty.fl103_1)) (aI (aI Ty.pl103_1 Ty.eq28) (aI Ty.eq31 (aI Ty.eq103 Ty.cb13))))))))
theorem kinds_ok (x : E) (hf : Fit x) (hs : shapeC x = 0) (hb : depthE x ≤ big) (hl : (graphC x).length ≤ big) : OkP Tryz.prog 16 [vE x] (vstr (kindsM (graphC x) es0)) := by
  have hg := graph_ok x hf hb
  rw [hs] at hg
  unfold big at hl
  simp only [vE, cE_eq x] at hg ⊢
  refine Ok.of_ex Ty.mixed Tryz.func16 rfl (by simp [Tryz.ntmps16]) (by kernel_rfl) fun F w0 I0 => ?_
  simp only [↓rA, rB]
  refine fun b1 h1 => ?_; replace h1 := newb h1; try simp only [Nb] at h1
  simp only [↓rA, rB, Nat.reduceAdd, Nat.reduceEqDiff, tbLY4]
  refine OkF_of _ hg ?_
  simp only [↓rA, rB, Nat.reduceEqDiff, tbLY4]
  refine fun b3 h3 => ?_; replace h3 := newb h3; try simp only [Nb] at h3
  simp only [↓rA, rB, Nat.reduceEqDiff, tbLY4, Tryz.results16]
  refine EX_forP Ty.mixed (by kernel_rfl) (graphC x).length (fun i S => S.boxes = [(b3, .c [vNds (graphC x)]), (b1, .c (cH x.hd (vEs x.args)))] ∧ S.rows = [] ∧ S.σ 3 = ptr b3 ∧ S.σ 4 = vint 0 ∧ S.σ 5 = vstr (kindsM ((graphC x).take i) es0) ∧ S.σ 6 = vint i) ⟨_, _, _, _, List.Sublist.refl _, List.Sublist.refl _, List.Perm.refl _, List.Perm.refl _, ?_⟩ (fun i S hi ⟨gb, gr, g3, g4, g5, g6⟩ => ?_) (fun S ⟨gb, gr, g3, g4, g5, g6⟩ => ?_)
  · simp only [rB, Nat.reduceEqDiff]
    rfl
  · have hwi := wrap_succ (i := i) (N := (graphC x).length) hi (by omega)
    simp only [↓rA, rB, Nat.reduceAdd, Nat.reduceEqDiff, Nat.reduceLT, Nat.reduceLeDiff, Nat.reduceMul, tbLY4, gb, g3, g4, g5, g6, Int.ofNat_lt, hi, List.length_map, getD_map _ _ _ hi, cNd_eq]
    refine fun y => ⟨fun e he => by obtain rfl := List.mem_singleton.1 he; rfl, [_], rfl, ?_⟩
    simp only [rB, hwi]
    rw [if_pos]
    · refine ⟨_, _, _, _, List.Sublist.refl _, List.nil_sublist _, List.Perm.refl _, List.Perm.refl _, ?_⟩
      simp only [rB, Nat.reduceEqDiff, gb, g3, g4]
      rw [List.take_succ_eq_append_getElem hi, kindsM_snoc]
    · rw [kindsM_size, List.length_take, show ByteArray.size es0 = 0 from rfl, show (strOf [IntKind.u8.wrap (IntKind.i64.wrap (48 + (graphC x)[i].kind))]).size = 1 from rfl]
      omega
  · rw [List.take_of_length_le (Nat.le_refl _)] at g5
    simp only [↓rA, rB, Nat.reduceAdd, Nat.reduceEqDiff, tbLY4, gb, gr, g3, g5, g6, Int.ofNat_lt, Nat.lt_irrefl, List.length_map]
    exact ret_done rfl
end Go.Proofs.YtphkmlogjgeipaaGreatDoor

/- Lowering: the example's values. -/
set_option maxRecDepth 100000
namespace Go.Lo
open Go.VL Go.Ar
abbrev oneE : E := .mk { hd0 1 with val := ⟨2, 1, es0⟩ } []
abbrev sCnt : Str := ⟨#[99, 111, 117, 110, 116]⟩
abbrev sSum : Str := ⟨#[115, 117, 109]⟩
abbrev sMax : Str := ⟨#[109, 97, 120]⟩
abbrev sAmount : Str := ⟨#[97, 109, 111, 117, 110, 116]⟩
abbrev sPlus : Str := ⟨#[43]⟩
abbrev sDiv : Str := ⟨#[47]⟩
abbrev sF : Str := ⟨#[102]⟩
abbrev sUser : Str := ⟨#[117, 115, 101, 114]⟩
abbrev countE : E := overE sCnt tt
abbrev amountE : E := .mk { hd0 2 with name := sAmount } []
abbrev sumE : E := overE sSum amountE
abbrev lastE : E := .mk ⟨5, sCnt, es0, sOrders, val0, [], 0, 4, 30⟩ [tt, tt]
abbrev featE : E := .mk { hd0 3 with name := sF } []
abbrev exF : Ftr := ⟨sF, sUser, ⟨2, [], es0⟩, countE, 1⟩
abbrev exC : Cat := ⟨[⟨sOrders, sUser, [⟨sAmount, ⟨2, [], es0⟩⟩], 0⟩], [exF], [], []⟩
end Go.Lo
namespace Go.Proofs.YtphkmlogjgeipaaGreatDoor
open Go.VL Go.Ar Go.Lo Go.Proofs.YtphkmlogjgeipaaGreatDoor
theorem sh1 : shapeC (binE sPlus countE countE) = 0 := by decide +kernel
theorem sh2 : shapeC (binE sPlus oneE oneE) = 0 := by decide +kernel
theorem sh3 : shapeC (binE sDiv sumE countE) = 0 := by decide +kernel
theorem putM_new {l : List Nd} {n : Nd} (h : n ∉ l) : putM l n = (l ++ [n], l.length) := by
  rw [putM, if_neg h, idxM_not fun j hj e => h (by rw [e]; exact List.getElem_mem hj)]
theorem putM_old {l : List Nd} {n : Nd} (h : n ∈ l) : putM l n = (l, idxM l n) := by rw [putM, if_pos h]
theorem gr2 : graphC (binE sPlus oneE oneE) = [{ nd0 5 with val := ⟨2, 1, es0⟩, expr := oneE }, { nd0 8 with op := sPlus, inn := [0, 0] }] := by
  rw [graphC, if_pos sh2]
  simp [lowE_op, lowEs, putM, idxM, ownM]
theorem gr1 : graphC (binE sPlus countE countE) = [{ nd0 1 with table := sOrders }, { nd0 2 with expr := tt, inn := [0] }, { nd0 3 with expr := tt, inn := [1] }, { nd0 4 with op := sCnt, wk := 1, inn := [2] }, { nd0 8 with op := sPlus, inn := [3, 3] }] := by
  rw [graphC, if_pos sh1]
  simp [lowE_op, lowE_agg, lowEs, overM, putM, idxM, ownM]
theorem gr3 : graphC (binE sDiv sumE countE) = [{ nd0 1 with table := sOrders }, { nd0 2 with expr := tt, inn := [0] }, { nd0 3 with expr := amountE, inn := [1] }, { nd0 4 with op := sSum, wk := 1, inn := [2] }, { nd0 3 with expr := tt, inn := [1] }, { nd0 4 with op := sCnt, wk := 1, inn := [4] }, { nd0 8 with op := sDiv, inn := [3, 5] }] := by
  rw [graphC, if_pos sh3]
  simp [lowE_op, lowE_agg, lowEs, overM, putM, idxM, ownM]
end Go.Proofs.YtphkmlogjgeipaaGreatDoor

/- Contracts of lowering, part r: the example. -/
set_option linter.unusedSimpArgs false
set_option maxRecDepth 100000
namespace Go.Proofs.YtphkmlogjgeipaaGreatDoor
open Go.VL Go.Ar Go.Lo Go.Proofs.YtphkmlogjgeipaaGreatDoor

theorem LeL_ats {w : World} {I : Cells} {b : Nat} : ∀ {l l' : List V} {o : Nat}, LeL l l' → V.ats w I l b o → V.ats w I l' b o
  | _, _, _, .nil, _ => by simp only [V.ats]
  | _, _, o, .cons h r, ha => by
    simp only [V.ats] at ha ⊢
    obtain ⟨⟨x, h1, h2, h3, h4⟩, h5⟩ := ha
    exact ⟨⟨x, h1, h2, h3, h w I x h4⟩, LeL_ats r h5⟩
theorem LeL_len : ∀ {l l' : List V}, LeL l l' → l.length = l'.length
  | _, _, .nil => rfl
  | _, _, .cons _ r => by simp [LeL_len r]
inductive LeLL : List (List V) → List (List V) → Prop
  | nil : LeLL [] []
  | cons {e e' : List V} {l l' : List (List V)} (h : LeL e e') (r : LeLL l l') : LeLL (e :: l) (e' :: l')
theorem LeLL.len : ∀ {l l' : List (List V)}, LeLL l l' → l.length = l'.length
  | _, _, .nil => rfl
  | _, _, .cons _ r => by simp [r.len]
theorem LeLL.lies {w : World} {I : Cells} {b k : Nat} : ∀ {l l' : List (List V)} {o : Nat}, LeLL l l' → V.lies w I k l b o → V.lies w I k l' b o
  | _, _, _, .nil, _ => by simp only [V.lies]
  | _, _, o, .cons h r, ha => by
    simp only [V.lies] at ha ⊢
    exact ⟨LeL_ats h ha.1, LeL_len h ▸ ha.2.1, r.lies ha.2.2⟩
theorem Le.lists {own : Option Value} {k : Nat} {es es' : List (List V)} (h : LeLL es es') : Le (.list own k es) (.list none k es') := by
  intro w I x hx
  simp only [V.rep] at hx ⊢
  obtain ⟨_, a, c, h1, h2, h3⟩ := hx
  refine ⟨fun y hy => (by cases hy), a, c, h.len ▸ h1, h.len ▸ h2, ?_⟩
  rcases h3 with e | ⟨b, o, e, hl⟩
  · subst e
    cases h
    exact .inl rfl
  · exact .inr ⟨b, o, e, h.lies hl⟩

theorem kd1 : kindsM (graphC (binE sPlus countE countE)) es0 = ⟨#[49, 50, 51, 52, 56]⟩ := by rw [gr1]; decide +kernel
theorem kd2 : kindsM (graphC (binE sPlus oneE oneE)) es0 = ⟨#[53, 56]⟩ := by rw [gr2]; decide +kernel
theorem kd3 : kindsM (graphC (binE sDiv sumE countE)) es0 = ⟨#[49, 50, 51, 52, 51, 52, 56]⟩ := by rw [gr3]; decide +kernel
abbrev maxE : E := overE sMax amountE
abbrev mo : E := binE sPlus maxE oneE
theorem fitA (h : Hd) (hu : h.unit.length ≤ big) : Fit (.mk h []) := .mk _ _ hu (by decide) fun x hx => by cases hx
theorem fitB {a b : E} (h : Hd) (hu : h.unit.length ≤ big) (ha : Fit a) (hb : Fit b) : Fit (.mk h [a, b]) := .mk _ _ hu (show 2 ≤ big by decide) fun x hx => by
  rcases List.mem_cons.1 hx with rfl | hx
  · exact ha
  · obtain rfl := List.mem_singleton.1 hx
    exact hb
theorem fitTT : Fit tt := fitA _ (by decide)
theorem fitOne : Fit oneE := fitA _ (by decide)
theorem fitFe : Fit featE := fitA _ (by decide)
theorem fitAm : Fit amountE := fitA _ (by decide)
theorem fitCnt : Fit countE := fitB _ (by decide) fitTT fitTT
theorem fitSum : Fit sumE := fitB _ (by decide) fitAm fitTT
theorem fitMax : Fit maxE := fitB _ (by decide) fitAm fitTT
theorem fitLast : Fit lastE := fitB _ (by decide) fitTT fitTT
theorem fitMo : Fit mo := fitB _ (by decide) fitMax fitOne
theorem cl1 : OkP Tryz.prog 15 [vCat exC, vE oneE] (vint 0) := class_none exC oneE fitOne [] (uses_none exC oneE fitOne [] (by decide +kernel) (by decide))
theorem cl2 : OkP Tryz.prog 15 [vCat exC, vE featE] (vint 1) := class_one exC featE fitFe (by decide) sF exF fitCnt rfl [sOrders] (uses_one exC featE fitFe (by decide) sF exF fitCnt [] [sOrders] (by decide +kernel) rfl (by decide +kernel) (by decide))
theorem cl3 : OkP Tryz.prog 15 [vCat exC, vE mo] (vint 2) := class_none exC mo fitMo [sOrders] (uses_none exC mo fitMo [sOrders] (by decide +kernel) (by decide))
theorem cl4 : OkP Tryz.prog 15 [vCat exC, vE lastE] (vint 3) := class_none exC lastE fitLast [sOrders] (uses_none exC lastE fitLast [sOrders] (by decide +kernel) (by decide))
theorem vE_over (op : Str) (x : E) : vE (overE op x) = .agg (cH ⟨5, op, es0, sOrders, val0, [], 0, 1, 0⟩ (.list none 12 [cE x, cE tt])) := by rw [vE, cE_mk]; rfl
theorem vE_last : vE lastE = .agg (cH ⟨5, sCnt, es0, sOrders, val0, [], 0, 4, 30⟩ (.list none 12 [cE tt, cE tt])) := by rw [vE, cE_mk]; rfl
theorem vE_one : vE oneE = .agg (cH { hd0 1 with val := ⟨2, 1, es0⟩ } (.list none 12 [])) := by rw [vE, cE_mk]; rfl
theorem vE_am : vE amountE = .agg (cH { hd0 2 with name := sAmount } (.list none 12 [])) := by rw [vE, cE_mk]; rfl
theorem vE_tt : vE tt = .agg (cH hTT (.list none 12 [])) := by rw [vE, cE_mk]; rfl
abbrev gr1L : List Nd := [{ nd0 1 with table := sOrders }, { nd0 2 with expr := tt, inn := [0] }, { nd0 3 with expr := tt, inn := [1] }, { nd0 4 with op := sCnt, wk := 1, inn := [2] }, { nd0 8 with op := sPlus, inn := [3, 3] }]
theorem EX_gen {C : Ctx} {k : List It} {S : St} {Q : Exit → St → Prop} (T : St → Prop) (h : T S) (hk : ∀ S, T S → EX C k S Q) : EX C k S Q := hk S h
abbrev tabV (y y1 : Value) : V := .list (some y1) 4 [[vstr sOrders, vstr sUser, .list (some y) 4 [[vstr sAmount, vint 2, nilS, vstr es0]], vint 0]]
abbrev cFx : List V := [vstr sF, vstr sUser, vint 2, nilS, vstr es0, vint 5, vstr sCnt, vstr es0, vstr sOrders, vint 0, vint 0, vstr es0, vFacs [], vint 0, vint 1, vint 0, .list none 12 [cE tt, cE tt], vint 1]
abbrev ftrV (y2 : Value) : V := .list (some y2) 18 [cFx]
theorem leCat (y y1 y2 : Value) : Le (.agg [tabV y y1, ftrV y2, nilS, nilS]) (vCat exC) := by
  refine leAgg (.cons (Le.lists (.cons (.cons (Le.refl _) (.cons (Le.refl _) (.cons (Le.lists (.cons (.cons (Le.refl _) (.cons (Le.refl _) (.cons (Le.nil 2) (.cons (Le.refl _) .nil)))) .nil)) (.cons (Le.refl _) .nil)))) .nil)) (.cons (Le.lists (.cons ?_ .nil)) (.cons (Le.nil 18) (.cons (Le.nil 18) .nil))))
  rw [cFtr_eq]
  exact .cons (Le.refl _) (.cons (Le.refl _) (.cons (Le.refl _) (.cons (Le.nil 2) (LeL.refl _))))
set_option linter.defProp false in
def tbL10 := (aI (aI (aI (aI (aI (aI (aI Ty.sz3 (aI Ty.by3 Ty.ag3)) (aI Ty.zr3 (aI Ty.un3 Ty.sz4))) (aI (aI Ty.by4 (aI Ty.ag4 Ty.zr4)) (aI Ty.un4 (aI Ty.sz9 Ty.by9)))) (aI (aI (aI Ty.ag9 (aI Ty.zr9 Ty.un9)) (aI Ty.sz22 (aI Ty.by22 Ty.ag22))) (aI (aI Ty.zr22 (aI Ty.un22 Ty.sz24)) (aI Ty.by24 (aI Ty.ag24 Ty.zr24))))) (aI (aI (aI (aI Ty.fl24_0 (aI Ty.pl24_0 Ty.sz28)) (aI Ty.by28 (aI Ty.ag28 Ty.zr28))) (aI (aI Ty.fl28_0 (aI Ty.pl28_0 Ty.fl28_1)) (aI Ty.pl28_1 (aI Ty.fl28_2 Ty.pl28_2)))) (aI (aI (aI Ty.sz29 (aI Ty.by29 Ty.ag29)) (aI Ty.zr29 (aI Ty.un29 Ty.sz31))) (aI (aI Ty.by31 (aI Ty.ag31 Ty.zr31)) (aI (aI Ty.fl31_0 Ty.pl31_0) (aI Ty.fl31_1 Ty.pl31_1)))))) (aI (aI (aI (aI (aI Ty.sz32 (aI Ty.by32 Ty.ag32)) (aI Ty.zr32 (aI Ty.un32 Ty.sz34))) (aI (aI Ty.by34 (aI Ty.ag34 Ty.zr34)) (aI Ty.fl34_0 (aI Ty.pl34_0 Ty.fl34_1)))) (aI (aI (aI Ty.pl34_1 (aI Ty.fl34_2 Ty.pl34_2)) (aI Ty.fl34_3 (aI Ty.pl34_3 Ty.fl34_4))) (aI (aI Ty.pl34_4 (aI Ty.fl34_5 Ty.pl34_5)) (aI (aI Ty.fl34_6 Ty.pl34_6) (aI Ty.fl34_7 Ty.pl34_7))))) (aI (aI (aI (aI Ty.fl34_8 (aI Ty.pl34_8 Ty.sz35)) (aI Ty.by35 (aI Ty.ag35 Ty.zr35))) (aI (aI Ty.un35 (aI Ty.sz42 Ty.by42)) (aI Ty.ag42 (aI Ty.sz45 Ty.by45)))) (aI (aI (aI Ty.ag45 (aI Ty.zr45 Ty.un45)) (aI Ty.sz47 (aI Ty.by47 Ty.ag47))) (aI (aI Ty.zr47 (aI Ty.fl47_0 Ty.pl47_0)) (aI (aI Ty.fl47_1 Ty.pl47_1) (aI Ty.fl47_2 Ty.pl47_2))))))) (aI (aI (aI (aI (aI (aI Ty.fl47_3 (aI Ty.pl47_3 Ty.fl47_4)) (aI Ty.pl47_4 (aI Ty.fl47_5 Ty.pl47_5))) (aI (aI Ty.fl47_6 (aI Ty.pl47_6 Ty.fl47_7)) (aI Ty.pl47_7 (aI Ty.fl47_8 Ty.pl47_8)))) (aI (aI (aI Ty.sz49 (aI Ty.by49 Ty.ag49)) (aI Ty.zr49 (aI Ty.fl49_0 Ty.pl49_0))) (aI (aI Ty.fl49_1 (aI Ty.pl49_1 Ty.fl49_2)) (aI (aI Ty.pl49_2 Ty.sz51) (aI Ty.by51 Ty.ag51))))) (aI (aI (aI (aI Ty.zr51 (aI Ty.fl51_0 Ty.pl51_0)) (aI Ty.fl51_1 (aI Ty.pl51_1 Ty.fl51_2))) (aI (aI Ty.pl51_2 (aI Ty.fl51_3 Ty.pl51_3)) (aI Ty.fl51_4 (aI Ty.pl51_4 Ty.sz53)))) (aI (aI (aI Ty.by53 (aI Ty.ag53 Ty.zr53)) (aI Ty.fl53_0 (aI Ty.pl53_0 Ty.fl53_1))) (aI (aI Ty.pl53_1 (aI Ty.sz54 Ty.by54)) (aI (aI Ty.ag54 Ty.zr54) (aI Ty.un54 Ty.sz56)))))) (aI (aI (aI (aI (aI Ty.by56 (aI Ty.ag56 Ty.zr56)) (aI Ty.fl56_0 (aI Ty.pl56_0 Ty.fl56_1))) (aI (aI Ty.pl56_1 (aI Ty.fl56_2 Ty.pl56_2)) (aI Ty.fl56_3 (aI Ty.pl56_3 Ty.sz57)))) (aI (aI (aI Ty.by57 (aI Ty.ag57 Ty.zr57)) (aI Ty.un57 (aI Ty.sz58 Ty.by58))) (aI (aI Ty.ag58 (aI Ty.zr58 Ty.un58)) (aI (aI Ty.sz60 Ty.by60) (aI Ty.ag60 Ty.zr60))))) (aI (aI (aI (aI Ty.fl60_0 (aI Ty.pl60_0 Ty.fl60_1)) (aI Ty.pl60_1 (aI Ty.fl60_2 Ty.pl60_2))) (aI (aI Ty.fl60_3 (aI Ty.pl60_3 Ty.sz103)) (aI Ty.by103 (aI Ty.ag103 Ty.zr103)))) (aI (aI (aI Ty.fl103_0 (aI Ty.pl103_0 Ty.fl103_1)) (aI Ty.pl103_1 (aI Ty.eq28 Ty.eq31))) (aI (aI Ty.eq103 (aI Ty.cb11 Ty.cb12)) (aI (aI Ty.cb13 Ty.cb14) (aI Ty.cb15 Ty.cb16))))))))
theorem example_ok : OkP Tryz.prog 4 [] (vbool true) := by
  have hT := true_ok
  have h1 := over_ok sCnt tt
  have h2 := over_ok sSum amountE
  have h3 := binary_ok sPlus countE countE
  have h4 := graph_ok (binE sPlus countE countE) (fitB _ (by decide) fitCnt fitCnt) (by decide +kernel)
  rw [sh1, gr1] at h4
  rw [vE_over] at h1 h2 h3
  have h5 := over_ok sMax amountE
  have h6 := binary_ok sPlus maxE oneE
  have h7 := binary_ok sPlus oneE oneE
  have h9 := binary_ok sDiv sumE countE
  have k1 := kinds_ok (binE sPlus countE countE) (fitB _ (by decide) fitCnt fitCnt) sh1 (by decide +kernel) (by rw [gr1]; decide)
  have k2 := kinds_ok (binE sPlus oneE oneE) (fitB _ (by decide) fitOne fitOne) sh2 (by decide +kernel) (by rw [gr2]; decide)
  have k3 := kinds_ok (binE sDiv sumE countE) (fitB _ (by decide) fitSum fitCnt) sh3 (by decide +kernel) (by rw [gr3]; decide)
  rw [kd1] at k1
  rw [kd2] at k2
  rw [kd3] at k3
  rw [vE_over, vE_over] at h9
  have c4 := cl4
  rw [vE_last] at c4
  have leI : ∀ {u a : V}, Le u (.list none 2 []) → Le a (.list none 12 []) → Le (.agg [vint 1, vstr es0, vstr es0, vstr es0, vint 2, vint 1, vstr es0, u, vint 0, vint 0, vint 0, a]) (vE oneE) := fun hu ha => leE (h := { hd0 1 with val := ⟨2, 1, es0⟩ }) (l := []) hu ha
  generalize hB : vE (binE sPlus countE countE) = B1 at h3 h4 k1
  refine Ok.of_ex Ty.mixed Tryz.func4 rfl (by simp [Tryz.ntmps4]) (by kernel_rfl) fun F w0 I0 => ?_
  simp only [↓rA, rB, Nat.reduceAdd, Nat.reduceLeDiff, tbL10]
  refine fun b1 n1 => ?_; replace n1 := newb n1; try simp only [Nb] at n1
  simp only [↓rA, rB, Nat.reduceAdd, Nat.reduceEqDiff, tbL10]
  refine OkF_of _ hT ?_
  simp only [↓rA, rB, tbL10]
  refine OkF_of _ h1 ?_
  simp only [↓rA, rB, tbL10]
  refine fun b2 n2 => ?_; replace n2 := newb n2; try simp only [Nb] at n2
  simp only [↓rA, rB, Nat.reduceAdd, Nat.reduceEqDiff, Nat.reduceLeDiff, tbL10]
  refine OkF_le (.cons (Le.refl _) (.cons (leE (h := { hd0 2 with name := sAmount }) (l := []) (Le.nil 2) (Le.nil 12)) .nil)) _ h2 ?_
  simp only [↓rA, rB, tbL10]
  refine fun b3 n3 => ?_; replace n3 := newb n3; try simp only [Nb] at n3
  simp only [↓rA, rB, Nat.reduceAdd, Nat.reduceEqDiff, tbL10, n3]
  refine OkF_of _ h3 ?_
  simp only [↓rA, rB, tbL10]
  refine OkF_of _ h4 ?_
  simp only [↓rA, rB, Nat.reduceEqDiff, tbL10]
  refine fun b4 n4 => ?_; replace n4 := newb n4; try simp only [Nb] at n4
  simp only [↓rA, rB, Int.reduceLE, Int.reduceLT, Int.reduceToNat, Nat.reduceAdd, Nat.reduceEqDiff, tbL10, Int.cast_ofNat_Int, cNd_eq, n3, n4]
  refine fun b6 n6 => ?_; replace n6 := newb n6; try simp only [Nb] at n6
  simp only [↓rA, rB, Nat.reduceAdd, Nat.reduceEqDiff, Nat.reduceLeDiff, tbL10, Int.cast_ofNat_Int, cNd_eq, n3, n4, n6]
  refine fun b7 n7 => ?_; replace n7 := newb n7; try simp only [Nb] at n7
  simp only [↓rA, rB, Nat.reduceAdd, Nat.reduceEqDiff, Nat.reduceLT, Nat.reduceLeDiff, Nat.reduceMul, tbL10, Int.cast_ofNat_Int, cNd_eq]
  intro y y1 y2
  refine fun b8 n8 => ?_; replace n8 := newb n8; try simp only [Nb] at n8
  simp only [↓rA, rB, Nat.reduceAdd, Nat.reduceEqDiff, tbL10, n2, n3, n4, n6, n7, n8]
  have leOne : ∀ {a : V} {x : E}, Le a (vE x) → LeL [.agg [tabV y y1, ftrV y2, nilS, nilS], a] [vCat exC, vE x] := fun h => .cons (leCat y y1 y2) (.cons h .nil)
  refine CallV_le (leOne (leE (h := { hd0 1 with val := ⟨2, 1, es0⟩ }) (l := []) (Le.nil 2) (Le.nil 12))) _ cl1 ?_
  simp only [↓rA, rB, Nat.reduceAdd, Nat.reduceEqDiff, Nat.reduceLeDiff, tbL10]
  refine CallV_le (leOne (leE (h := { hd0 3 with name := sF }) (l := []) (Le.nil 2) (Le.nil 12))) _ cl2 ?_
  simp only [↓rA, rB, Int.reduceToNat, Nat.reduceAdd, Nat.reduceEqDiff, tbL10, n4, n6, n7, n8]
  refine ⟨by rw [cE_len]; exact Nat.le_refl _, ?_⟩
  rw [List.take_of_length_le (by rw [cE_len]; exact Nat.le_refl _)]
  refine CallV_of _ h5.v ?_
  simp only [↓rA, rB, Nat.reduceAdd, Nat.reduceEqDiff, tbL10, n2, n3, n4, n6, n7, n8]
  refine CallV_le (.cons (Le.refl _) (.cons (Le.refl _) (.cons (leI (Le.nil 2) (Le.nil 12)) .nil))) _ h6 ?_
  simp only [↓rA, rB, Nat.reduceAdd, Nat.reduceEqDiff, tbL10]
  refine CallV_le (leOne (Le.refl _)) _ cl3 ?_
  simp only [↓rA, rB, Nat.reduceAdd, Nat.reduceEqDiff, tbL10, n7, n8]
  refine CallV_le (.cons (leCat y y1 y2) (.cons (Le.refl _) .nil)) _ c4 ?_
  simp only [↓rA, rB, Nat.reduceAdd, Nat.reduceEqDiff, tbL10, n2, n3, n4, n6, n7, n8]
  refine OkF_le (.cons (Le.refl _) (.cons (leI (Le.nil 2) (Le.nil 12)) (.cons (leI (Le.nil 2) (Le.nil 12)) .nil))) _ h7 ?_
  simp only [↓rA, rB, Nat.reduceAdd, tbL10]
  refine OkF_of _ k2 ?_
  simp only [↓rA, rB, Nat.reduceAdd, Nat.reduceEqDiff, tbL10, n3, n4, n6, n7, n8]
  refine OkF_of _ h3 ?_
  simp only [↓rA, rB, Nat.reduceAdd, Nat.reduceEqDiff, tbL10]
  refine OkF_of _ k1 ?_
  simp only [↓rA, rB, Int.reduceLE, Int.reduceLT, Int.reduceToNat, Nat.reduceAdd, Nat.reduceEqDiff, tbL10, n3, n4, n6, n7, n8, cNd_eq, Int.cast_ofNat_Int]
  refine OkF_of _ h9 ?_
  simp only [↓rA, rB, Nat.reduceAdd, Nat.reduceEqDiff, tbL10]
  refine OkF_of _ k3 ?_
  simp only [↓rA, rB, Nat.reduceAdd, Nat.reduceEqDiff, Tryz.results4]
  exact ret_done rfl
end Go.Proofs.YtphkmlogjgeipaaGreatDoor

/- Lowering: what a lowered list of nodes is. -/
set_option maxRecDepth 100000
namespace Go.Lo
open Go.VL Go.Ar
def szF (acc : List Nat) (n : Nd) : Nat := 1 + (n.inn.map fun t => acc.getD t.toNat 0).sum
def szStep (acc : List Nat) (n : Nd) : List Nat := acc ++ [szF acc n]
def szs (L : List Nd) : List Nat := L.foldl szStep []
theorem szs_snoc (L : List Nd) (n : Nd) : szs (L ++ [n]) = szs L ++ [szF (szs L) n] := by
  rw [szs, List.foldl_append]; rfl
theorem foldSz_pre : ∀ (M : List Nd) (acc : List Nat), acc <+: M.foldl szStep acc
  | [], _ => List.prefix_refl _
  | n :: r, acc => (List.prefix_append acc _).trans (foldSz_pre r (szStep acc n))
theorem foldSz_len : ∀ (M : List Nd) (acc : List Nat), (M.foldl szStep acc).length = acc.length + M.length
  | [], _ => rfl
  | n :: r, acc => by
    rw [List.foldl_cons, foldSz_len r, szStep, List.length_append]
    simp only [List.length_cons, List.length_nil]
    omega
theorem szs_len (L : List Nd) : (szs L).length = L.length := by
  have := foldSz_len L []
  rw [szs, this]; simp
theorem szs_pre {L L' : List Nd} (h : L <+: L') : szs L <+: szs L' := by
  obtain ⟨M, rfl⟩ := h
  rw [szs, szs, List.foldl_append]
  exact foldSz_pre M _
theorem getD_pre {a b : List Nat} (h : a <+: b) {i : Nat} (hi : i < a.length) : b.getD i 0 = a.getD i 0 := by
  obtain ⟨m, rfl⟩ := h
  simp only [List.getD_eq_getElem?_getD]
  rw [List.getElem?_append_left hi]
theorem szs_stable {L L' : List Nd} (h : L <+: L') {i : Nat} (hi : i < L.length) : (szs L').getD i 0 = (szs L).getD i 0 := getD_pre (szs_pre h) (by rw [szs_len]; exact hi)
def WF (L : List Nd) : Prop := ∀ i (h : i < L.length), ∀ t ∈ L[i].inn, 0 ≤ t ∧ t < i
theorem map_congr' {α β : Type} {f g : α → β} : ∀ {l : List α}, (∀ x ∈ l, f x = g x) → l.map f = l.map g
  | [], _ => rfl
  | x :: r, h => by rw [List.map_cons, List.map_cons, h x List.mem_cons_self, map_congr' fun y hy => h y (List.mem_cons_of_mem _ hy)]
theorem szF_stable {L L' : List Nd} (h : L <+: L') {n : Nd} (hn : ∀ t ∈ n.inn, 0 ≤ t ∧ t < L.length) : szF (szs L') n = szF (szs L) n := by
  unfold szF
  rw [map_congr' fun t ht => szs_stable h (i := t.toNat) (by have := hn t ht; omega)]
theorem szs_at {L : List Nd} (hw : WF L) {i : Nat} (hi : i < L.length) : (szs L).getD i 0 = szF (szs L) L[i] := by
  have hp : L.take i <+: L := List.take_prefix _ _
  have hp1 : L.take (i + 1) <+: L := List.take_prefix _ _
  have hl : (L.take i).length = i := by rw [List.length_take]; omega
  rw [szs_stable hp1 (i := i) (by rw [List.length_take]; omega), List.take_succ_eq_append_getElem hi, szs_snoc]
  rw [szF_stable hp (n := L[i]) (fun t ht => by rw [hl]; exact hw i hi t ht)]
  simp only [List.getD_eq_getElem?_getD]
  rw [List.getElem?_append_right (by rw [szs_len, hl]; exact Nat.le_refl _), szs_len, hl, Nat.sub_self]
  rfl
/-- L' is L with the nodes for rs (of the sizes ns); each new node is in rs or used by a later one. -/
structure Low (L L' : List Nd) (rs : List Int) (ns : List Nat) (top c : Nat) : Prop where
  pre : L <+: L'
  wf : WF L'
  nd : L'.Nodup
  rsb : ∀ t ∈ rs, 0 ≤ t ∧ t < L'.length
  nse : (rs.map fun t => (szs L').getD t.toNat 0) = ns
  topb : ∀ i, L.length ≤ i → i < L'.length → (szs L').getD i 0 ≤ top
  use : ∀ i, L.length ≤ i → i < L'.length → (i : Int) ∈ rs ∨ ∃ j, i < j ∧ ∃ h : j < L'.length, (i : Int) ∈ L'[j].inn
  cnt : L'.length ≤ L.length + c
theorem Low.refl {L : List Nd} (hw : WF L) (hn : L.Nodup) : Low L L [] [] 0 0 :=
  ⟨List.prefix_refl _, hw, hn, fun t ht => (by cases ht), rfl, fun i h1 h2 => by omega, fun i h1 h2 => by omega, Nat.le_refl _⟩
theorem pre_get {L L' : List Nd} (h : L <+: L') {j : Nat} (hj : j < L.length) : ∃ h' : j < L'.length, L'[j] = L[j] := by
  obtain ⟨M, rfl⟩ := h
  exact ⟨by rw [List.length_append]; omega, List.getElem_append_left hj⟩
theorem Low.app {L L1 L2 : List Nd} {rs rs' ns ns' a b c d} (h : Low L L1 rs ns a c) (h' : Low L1 L2 rs' ns' b d) : Low L L2 (rs ++ rs') (ns ++ ns') (max a b) (c + d) := by
  have hle : L1.length ≤ L2.length := h'.pre.length_le
  refine ⟨h.pre.trans h'.pre, h'.wf, h'.nd, ?_, ?_, ?_, ?_, ?_⟩
  · intro t ht
    rcases List.mem_append.1 ht with ht | ht
    · have := h.rsb t ht
      omega
    · exact h'.rsb t ht
  · rw [List.map_append, h'.nse, ← h.nse]
    congr 1
    exact map_congr' fun t ht => szs_stable h'.pre (by have := h.rsb t ht; omega)
  · intro i h1 h2
    rcases Nat.lt_or_ge i L1.length with hi | hi
    · rw [szs_stable h'.pre hi]
      exact Nat.le_trans (h.topb i h1 hi) (Nat.le_max_left _ _)
    · exact Nat.le_trans (h'.topb i hi h2) (Nat.le_max_right _ _)
  · intro i h1 h2
    rcases Nat.lt_or_ge i L1.length with hi | hi
    · rcases h.use i h1 hi with hr | ⟨j, hj, hjl, hm⟩
      · exact .inl (List.mem_append.2 (.inl hr))
      · obtain ⟨hj2, e⟩ := pre_get h'.pre hjl
        exact .inr ⟨j, hj, hj2, by rw [e]; exact hm⟩
    · rcases h'.use i hi h2 with hr | hr
      · exact .inl (List.mem_append.2 (.inr hr))
      · exact .inr hr
  · have := h.cnt
    have := h'.cnt
    omega
mutual
def nsE : E → Nat
  | .mk h l => if h.kind = 5 then 4 else 1 + (nsEs l).sum
def nsEs : List E → List Nat
  | [] => []
  | x :: r => nsE x :: nsEs r
end
theorem nsE_mk (h : Hd) (l : List E) : nsE (.mk h l) = if h.kind = 5 then 4 else 1 + (nsEs l).sum := by rw [nsE]
theorem Low.le {L L1 : List Nd} {rs ns a c a' c'} (h : Low L L1 rs ns a c) (ha : a ≤ a') (hc : c ≤ c') : Low L L1 rs ns a' c' :=
  ⟨h.pre, h.wf, h.nd, h.rsb, h.nse, fun i h1 h2 => Nat.le_trans (h.topb i h1 h2) ha, h.use, Nat.le_trans h.cnt (by omega)⟩
end Go.Lo
namespace Go.Proofs.YtphkmlogjgeipaaGreatDoor
open Go.VL Go.Ar Go.Lo Go.Proofs.YtphkmlogjgeipaaGreatDoor
theorem low_put {L L1 : List Nd} {rs ns a c} {n : Nd} (h : Low L L1 rs ns a c) (hn : n.inn = rs) : Low L (putM L1 n).1 [((putM L1 n).2 : Int)] [1 + ns.sum] (max a (1 + ns.sum)) (c + 1) := by
  by_cases hm : n ∈ L1
  · obtain ⟨hq, hqe⟩ := idxM_get hm
    rw [putM_old hm]
    have hs := szs_at h.wf hq
    rw [hqe, szF, hn, h.nse] at hs
    refine ⟨h.pre, h.wf, h.nd, ?_, ?_, fun i h1 h2 => Nat.le_trans (h.topb i h1 h2) (Nat.le_max_left _ _), ?_, by have := h.cnt; simp only; omega⟩
    · intro t ht
      obtain rfl := List.mem_singleton.1 ht
      simp only
      omega
    · simp only [List.map_cons, List.map_nil, Int.toNat_natCast]
      rw [hs]
    · intro i h1 h2
      rcases h.use i h1 h2 with hr | hr
      · have hr' : (i : Int) ∈ L1[idxM L1 n].inn := by rw [hqe, hn]; exact hr
        have := (h.wf _ hq _ hr').2
        exact .inr ⟨idxM L1 n, by omega, hq, hr'⟩
      · exact .inr hr
  · rw [putM_new hm]
    have hp : L1 <+: L1 ++ [n] := List.prefix_append _ _
    have hsz : (szs (L1 ++ [n])).getD L1.length 0 = 1 + ns.sum := by
      rw [szs_snoc]
      simp only [List.getD_eq_getElem?_getD]
      rw [List.getElem?_append_right (by rw [szs_len]; exact Nat.le_refl _), szs_len, Nat.sub_self, szF, hn]
      rw [h.nse]
      rfl
    refine ⟨h.pre.trans hp, ?_, ?_, ?_, ?_, ?_, ?_, ?_⟩
    · intro i hi t ht
      rcases Nat.lt_or_ge i L1.length with hl | hl
      · rw [List.getElem_append_left hl] at ht
        exact h.wf i hl t ht
      · have : i = L1.length := by simp only [List.length_append, List.length_cons, List.length_nil] at hi; omega
        subst this
        rw [List.getElem_append_right (Nat.le_refl _)] at ht
        simp only [Nat.sub_self, List.getElem_cons_zero] at ht
        rw [hn] at ht
        exact h.rsb t ht
    · refine List.nodup_append.2 ⟨h.nd, by simp, fun a ha b hb => ?_⟩
      obtain rfl := List.mem_singleton.1 hb
      intro e
      subst e
      exact hm ha
    · intro t ht
      obtain rfl := List.mem_singleton.1 ht
      simp only [List.length_append, List.length_cons, List.length_nil]
      omega
    · simp only [List.map_cons, List.map_nil, Int.toNat_natCast]
      rw [hsz]
    · intro i h1 h2
      rcases Nat.lt_or_ge i L1.length with hl | hl
      · rw [szs_stable hp hl]
        exact Nat.le_trans (h.topb i h1 hl) (Nat.le_max_left _ _)
      · have : i = L1.length := by simp only [List.length_append, List.length_cons, List.length_nil] at h2; omega
        subst this
        rw [hsz]
        exact Nat.le_max_right _ _
    · intro i h1 h2
      rcases Nat.lt_or_ge i L1.length with hl | hl
      · rcases h.use i h1 hl with hr | ⟨j, hj, hjl, hm'⟩
        · refine .inr ⟨L1.length, hl, by simp, ?_⟩
          rw [List.getElem_append_right (Nat.le_refl _)]
          simp only [Nat.sub_self, List.getElem_cons_zero]
          rw [hn]
          exact hr
        · obtain ⟨hj2, e⟩ := pre_get hp hjl
          exact .inr ⟨j, hj, hj2, by rw [e]; exact hm'⟩
      · have : i = L1.length := by simp only [List.length_append, List.length_cons, List.length_nil] at h2; omega
        subst this
        exact .inl (List.mem_singleton.2 rfl)
    · have := h.cnt
      simp only [List.length_append, List.length_cons, List.length_nil]
      omega
theorem lowEs_low : ∀ (l : List E) (L : List Nd), (∀ x ∈ l, ∀ L, WF L → L.Nodup → Low L (lowE L x).1 [((lowE L x).2 : Int)] [nsE x] (nsE x) (cntN x + 3 * cntM x)) → WF L → L.Nodup →
    Low L (lowEs L l).1 (lowEs L l).2 (nsEs l) (nsEs l).sum (cntNs l + 3 * cntMs l)
  | [], L, _, hw, hn => Low.refl hw hn
  | x :: r, L, h, hw, hn => by
    have h1 := h x List.mem_cons_self L hw hn
    have h2 := lowEs_low r (lowE L x).1 (fun y hy => h y (List.mem_cons_of_mem _ hy)) h1.wf h1.nd
    have h3 := h1.app h2
    rw [lowEs]
    refine Low.le h3 ?_ ?_
    · simp only [nsEs, List.sum_cons]; omega
    · simp only [cntNs, cntMs]; omega
theorem over_low (L : List Nd) (h : Hd) (a c : E) (hw : WF L) (hn : L.Nodup) : Low L (overM L h a c).1 [((overM L h a c).2 : Int)] [4] 4 4 := by
  have h1 := low_put (n := { nd0 1 with table := h.table }) (Low.refl hw hn) rfl
  have h2 := low_put (n := { nd0 2 with expr := c, inn := [((putM L { nd0 1 with table := h.table }).2 : Int)] }) h1 rfl
  have h3 := low_put (n := { nd0 3 with expr := a, inn := [((putM (putM L { nd0 1 with table := h.table }).1 { nd0 2 with expr := c, inn := [((putM L { nd0 1 with table := h.table }).2 : Int)] }).2 : Int)] }) h2 rfl
  exact low_put h3 rfl
theorem low_ok : ∀ x, Agg2 x → ∀ L, WF L → L.Nodup → Low L (lowE L x).1 [((lowE L x).2 : Int)] [nsE x] (nsE x) (cntN x + 3 * cntM x) := by
  intro x
  induction x using E.ind with
  | h hd l ih =>
  intro hg L hw hn
  cases hg with
  | mk _ _ hk ha =>
  rw [nsE_mk, cntN_mk, cntM_mk]
  by_cases e : hd.kind = 5
  · rw [if_pos e, if_pos e, if_pos e]
    match l, hk e with
    | a :: c :: r, _ =>
      rw [lowE_agg _ _ _ _ _ e]
      exact over_low L hd a c hw hn
  · rw [if_neg e, if_neg e, if_neg e, lowE_op _ _ _ e]
    have h1 := lowEs_low l L (fun x hx => ih x hx (ha x hx)) hw hn
    have h2 := low_put (n := { ownM hd l with inn := (lowEs L l).2 }) h1 rfl
    exact h2.le (by omega) (by omega)
/-- An operation's node is new, if all before are those of its operands. -/
theorem op_last (h : Hd) (l : List E) (e : ¬ h.kind = 5) (ha : ∀ x ∈ l, Agg2 x) : lowE [] (.mk h l) = ((lowEs [] l).1 ++ [{ ownM h l with inn := (lowEs [] l).2 }], (lowEs [] l).1.length) := by
  rw [lowE_op _ _ _ e]
  have h1 := lowEs_low l [] (fun x hx => low_ok x (ha x hx)) (fun i hi => by cases hi) List.nodup_nil
  refine putM_new fun hm => ?_
  obtain ⟨q, hq, hqe⟩ := List.getElem_of_mem hm
  have hs := szs_at h1.wf hq
  have ht := h1.topb q (Nat.zero_le _) hq
  rw [hqe, szF, h1.nse] at hs
  omega
theorem root_last (x : E) (hg : Agg2 x) : (lowE [] x).1.length = (lowE [] x).2 + 1 := by
  cases x with
  | mk h l =>
  cases hg with
  | mk _ _ hk ha =>
  by_cases e : h.kind = 5
  · match l, hk e with
    | a :: c :: r, _ =>
      rw [lowE_agg _ _ _ _ _ e]
      simp [overM, putM, idxM]
  · rw [op_last h l e ha]
    simp
end Go.Proofs.YtphkmlogjgeipaaGreatDoor

/- Lowering: the graph of an expression. -/
set_option maxRecDepth 100000
namespace Go.Proofs.YtphkmlogjgeipaaGreatDoor
open Go.VL Go.Ar Go.Lo Go.Proofs.YtphkmlogjgeipaaGreatDoor
theorem putM_all {P : Nd → Prop} {L : List Nd} {n : Nd} (h : ∀ m ∈ L, P m) (hn : P n) : ∀ m ∈ (putM L n).1, P m := by
  intro m hm
  unfold putM at hm
  split at hm
  · exact h m hm
  · rcases List.mem_append.1 hm with hm | hm
    · exact h m hm
    · obtain rfl := List.mem_singleton.1 hm
      exact hn
theorem fit_exp0 : Fit exp0 := fitA _ (by decide)
theorem own_fit (h : Hd) (l : List E) (hf : Fit (.mk h l)) : Fit (ownM h l).expr := by
  unfold ownM
  repeat' split
  all_goals first | exact hf | exact fit_exp0
theorem own_inn (h : Hd) (l : List E) (ks : List Int) : ({ ownM h l with inn := ks } : Nd).inn = ks := rfl
theorem lowEs_fit : ∀ (l : List E) (L : List Nd), (∀ x ∈ l, ∀ L, (∀ n ∈ L, FitN n) → ∀ n ∈ (lowE L x).1, FitN n) → (∀ n ∈ L, FitN n) → ∀ n ∈ (lowEs L l).1, FitN n
  | [], L, _, h => h
  | x :: r, L, hx, h => by
    rw [lowEs]
    exact lowEs_fit r _ (fun y hy => hx y (List.mem_cons_of_mem _ hy)) (hx x List.mem_cons_self L h)
theorem low_fit : ∀ x, Fit x → ∀ L, (∀ n ∈ L, FitN n) → ∀ n ∈ (lowE L x).1, FitN n := by
  intro x
  induction x using E.ind with
  | h hd l ih =>
  intro hf L hL
  have hl := hf.len
  have ha := hf.args
  simp only [E.args] at hl ha
  rw [lowE_mk]
  split
  · unfold aggM
    split
    · rename_i a c r
      have h0 : (0 : Nat) ≤ big := Nat.zero_le _
      have h1 : (1 : Nat) ≤ big := by decide
      exact putM_all (putM_all (putM_all (putM_all hL ⟨fit_exp0, h0⟩) ⟨ha c (by simp), h1⟩) ⟨ha a (by simp), h1⟩) ⟨fit_exp0, h1⟩
    · exact hL
  · refine putM_all (lowEs_fit l L (fun y hy => ih y hy (ha y hy)) hL) ⟨own_fit hd l hf, ?_⟩
    rw [own_inn, lowEs_ks]
    exact hl
/-- What a graph is. -/
structure Gr (x : E) (L : List Nd) : Prop where
  pos : 0 < L.length
  le : L.length ≤ cntN x + 3 * cntM x
  sm : L.length ≤ 256
  nd : L.Nodup
  wf : WF L
  use : ∀ i, i + 1 < L.length → ∃ j, i < j ∧ ∃ h : j < L.length, (i : Int) ∈ L[j].inn
  fit : ∀ n ∈ L, FitN n
theorem graph_gr (x : E) (hf : Fit x) (e : shapeC x = 0) : Gr x (graphC x) := by
  obtain ⟨p1, p2, p3⟩ := shape_parts e
  have hg := proper_agg2 x false p3
  rw [graphC, if_pos e]
  have h := low_ok x hg [] (fun i hi => by cases hi) List.nodup_nil
  have hr := root_last x hg
  have hc := cnt_le x
  have hn := h.cnt
  have hlen := lowE_len x []
  simp only [List.length_nil] at hn hlen
  refine ⟨by omega, by omega, by omega, h.nd, h.wf, fun i hi => ?_, low_fit x hf [] fun n hn => by cases hn⟩
  rcases h.use i (Nat.zero_le _) (by omega) with hm | hm
  · have := List.mem_singleton.1 hm
    omega
  · exact hm
end Go.Proofs.YtphkmlogjgeipaaGreatDoor

