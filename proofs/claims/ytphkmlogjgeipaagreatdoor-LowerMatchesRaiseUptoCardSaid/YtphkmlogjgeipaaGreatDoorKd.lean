/- Merged out of my texts O4 O5 O2b O6 OF OG L6b. -/
import Derived.Test.YtphkmlogjgeipaaGreatDoorKc
import Derived.Test.YtphkmlogjgeipaaGreatDoorVH
import Derived.Lay
import Derived.Deep.DeepHandedRow
import Derived.Deep.DeepWitnessRowRef
set_option linter.unusedVariables false
/- Contracts of the reference's lowering, part d: a chain of nodes is raised (seat of LowerMatchesRaise). Printed by mkO4.py. -/
set_option linter.unusedSimpArgs false
set_option maxRecDepth 100000
namespace Go.Lo
open Go.VL Go.Ar
/-- The reference's raising of a chain. -/
def chainM (g : List Nd) (n : Nd) : E × Bool :=
  if n.inn.length = 1 then
    if (atN g (in0 n)).kind = 3 ∧ (atN g (in0 n)).inn.length = 1 then
      if (atN g (in0 (atN g (in0 n)))).kind = 2 ∧ (atN g (in0 (atN g (in0 n)))).inn.length = 1 ∧ (atN g (in0 (atN g (in0 (atN g (in0 n)))))).kind = 1 then
        (.mk ⟨5, n.op, es0, (atN g (in0 (atN g (in0 (atN g (in0 n)))))).table, val0, [], n.param, n.wk, n.ws⟩ [(atN g (in0 n)).expr, (atN g (in0 (atN g (in0 n)))).expr], true)
      else (exp0, false)
    else (exp0, false)
  else (exp0, false)
end Go.Lo
namespace Go.Proofs.YtphkmlogjgeipaaGreatDoor
open Go.VL Go.Ar Go.Lo Go.Proofs.YtphkmlogjgeipaaGreatDoor
abbrev bxC (b2 b3 b4 : Nat) (g : List Nd) (n : Nd) : List (Nat × B) :=
  [(b4, .c [vint 0, vstr es0, vstr es0, vstr es0, vint 0, vint 0, vstr es0, nilS, vint 0, vint 0, vint 0, nilS]), (b3, .c (cN n n.expr.hd (vEs n.expr.args) (vints n.inn))), (b2, .c [vNds g])]

def InC3 (b2 b3 b4 : Nat) (g : List Nd) (n : Nd) (k : Int) (x : Nd) (L : Nat → Bool) (S : St) : Prop :=
  S.rows = [] ∧ S.σ 2 = ptr b2 ∧ S.σ 3 = ptr b3 ∧ S.σ 4 = ptr b4 ∧ (L 0 = true → S.σ 13 = pt b2 0) ∧ (L 1 = true → S.σ 14 = vNds g) ∧ (L 2 = true → S.σ 15 = pt b3 22) ∧ (L 3 = true → S.σ 16 = vints n.inn) ∧ (L 4 = true → S.σ 17 = .ref [vint k]) ∧ (L 5 = true → S.σ 18 = vint k) ∧ (L 6 = true → S.σ 19 = .ref (cNd x)) ∧ (L 7 = true → S.σ 20 = .agg (cN x x.expr.hd (vEs x.expr.args) (vints x.inn))) ∧
    ((L 8 = false ∧ L 9 = false ∧ S.boxes = bxC b2 b3 b4 g n) ∨ (L 8 = true ∧ ∃ z, S.σ 6 = ptr z ∧ ((b2 ≠ z ∧ z ≠ b2) ∧ (b3 ≠ z ∧ z ≠ b3) ∧ (b4 ≠ z ∧ z ≠ b4)) ∧ (∃ c, c.length = 23 ∧ (L 9 = true → c = cN x x.expr.hd (vEs x.expr.args) (vints x.inn)) ∧ S.boxes = (z, .c c) :: bxC b2 b3 b4 g n)))

def InC6 (b2 b3 b4 : Nat) (b6 : Nat) (m : Nd) (g : List Nd) (n : Nd) (k : Int) (x : Nd) (L : Nat → Bool) (S : St) : Prop :=
  S.rows = [] ∧ S.σ 2 = ptr b2 ∧ S.σ 3 = ptr b3 ∧ S.σ 4 = ptr b4 ∧ S.σ 6 = ptr b6 ∧ (L 0 = true → S.σ 31 = pt b2 0) ∧ (L 1 = true → S.σ 32 = vNds g) ∧ (L 2 = true → S.σ 33 = pt b6 22) ∧ (L 3 = true → S.σ 34 = vints m.inn) ∧ (L 4 = true → S.σ 35 = .ref [vint k]) ∧ (L 5 = true → S.σ 36 = vint k) ∧ (L 6 = true → S.σ 37 = .ref (cNd x)) ∧ (L 7 = true → S.σ 38 = .agg (cN x x.expr.hd (vEs x.expr.args) (vints x.inn))) ∧
    ((L 8 = false ∧ L 9 = false ∧ S.boxes = (b6, .c (cN m m.expr.hd (vEs m.expr.args) (vints m.inn))) :: bxC b2 b3 b4 g n) ∨ (L 8 = true ∧ ∃ z, S.σ 7 = ptr z ∧ ((b2 ≠ z ∧ z ≠ b2) ∧ (b3 ≠ z ∧ z ≠ b3) ∧ (b4 ≠ z ∧ z ≠ b4) ∧ (b6 ≠ z ∧ z ≠ b6)) ∧ (∃ c, c.length = 23 ∧ (L 9 = true → c = cN x x.expr.hd (vEs x.expr.args) (vints x.inn)) ∧ S.boxes = (z, .c c) :: (b6, .c (cN m m.expr.hd (vEs m.expr.args) (vints m.inn))) :: bxC b2 b3 b4 g n)))

set_option linter.defProp false in
def tbO40 := (aI (aI (aI (aI (aI (aI Ty.sz3 (aI Ty.by3 Ty.ag3)) (aI (aI Ty.zr3 Ty.un3) (aI Ty.sz4 Ty.by4))) (aI (aI Ty.ag4 (aI Ty.zr4 Ty.un4)) (aI (aI Ty.sz9 Ty.by9) (aI Ty.ag9 Ty.zr9)))) (aI (aI (aI Ty.un9 (aI Ty.sz22 Ty.by22)) (aI (aI Ty.ag22 Ty.zr22) (aI Ty.un22 Ty.sz24))) (aI (aI Ty.by24 (aI Ty.ag24 Ty.zr24)) (aI (aI Ty.fl24_0 Ty.pl24_0) (aI Ty.sz28 Ty.by28))))) (aI (aI (aI (aI Ty.ag28 (aI Ty.zr28 Ty.fl28_0)) (aI (aI Ty.pl28_0 Ty.fl28_1) (aI Ty.pl28_1 Ty.fl28_2))) (aI (aI Ty.pl28_2 (aI Ty.sz29 Ty.by29)) (aI (aI Ty.ag29 Ty.zr29) (aI Ty.un29 Ty.sz31)))) (aI (aI (aI Ty.by31 (aI Ty.ag31 Ty.zr31)) (aI (aI Ty.fl31_0 Ty.pl31_0) (aI Ty.fl31_1 Ty.pl31_1))) (aI (aI (aI Ty.sz32 Ty.by32) (aI Ty.ag32 Ty.zr32)) (aI (aI Ty.un32 Ty.sz34) (aI Ty.by34 Ty.ag34)))))) (aI (aI (aI (aI (aI Ty.zr34 (aI Ty.fl34_0 Ty.pl34_0)) (aI (aI Ty.fl34_1 Ty.pl34_1) (aI Ty.fl34_2 Ty.pl34_2))) (aI (aI Ty.fl34_3 (aI Ty.pl34_3 Ty.fl34_4)) (aI (aI Ty.pl34_4 Ty.fl34_5) (aI Ty.pl34_5 Ty.fl34_6)))) (aI (aI (aI Ty.pl34_6 (aI Ty.fl34_7 Ty.pl34_7)) (aI (aI Ty.fl34_8 Ty.pl34_8) (aI Ty.sz45 Ty.by45))) (aI (aI Ty.ag45 (aI Ty.zr45 Ty.un45)) (aI (aI Ty.sz47 Ty.by47) (aI Ty.ag47 Ty.zr47))))) (aI (aI (aI (aI Ty.fl47_0 (aI Ty.pl47_0 Ty.fl47_1)) (aI (aI Ty.pl47_1 Ty.fl47_2) (aI Ty.pl47_2 Ty.fl47_3))) (aI (aI Ty.pl47_3 (aI Ty.fl47_4 Ty.pl47_4)) (aI (aI Ty.fl47_5 Ty.pl47_5) (aI Ty.fl47_6 Ty.pl47_6)))) (aI (aI (aI Ty.fl47_7 (aI Ty.pl47_7 Ty.fl47_8)) (aI (aI Ty.pl47_8 Ty.sz103) (aI Ty.by103 Ty.ag103))) (aI (aI (aI Ty.zr103 Ty.fl103_0) (aI Ty.pl103_0 Ty.fl103_1)) (aI (aI Ty.pl103_1 Ty.eq28) (aI Ty.eq31 Ty.eq103)))))))
theorem chain_ok (g : List Nd) (n : Nd) (i : Nat) (hi : i ≤ g.length) (hw : WF g) (hn : ∀ t ∈ n.inn, 0 ≤ t ∧ t < i) : OkP Tryz.prog 38 [vG g, .agg (cNd n)] (.tup [vE (chainM g n).1, vbool (chainM g n).2]) := by
  have h11 : ((1 : Nat) : Int) = 1 := rfl
  have bad : chainM g n = (exp0, false) → ∀ (X : List (Nat × B)) (Y : List Row), ∃ v bs' rs', Le (.tup [.agg [vint 0, vstr es0, vstr es0, vstr es0, vint 0, vint 0, vstr es0, nilS, vint 0, vint 0, vint 0, nilS], .lit (.bool false)]) v ∧ bs'.Sublist X ∧ rs'.Sublist Y ∧ v = .tup [vE (chainM g n).1, vbool (chainM g n).2] ∧ bs' = [] ∧ rs' = [] := fun h X Y =>
    ⟨_, [], [], leTup (.cons (leE (h := hd0 0) (l := []) (Le.nil 2) (Le.nil 12)) (.cons (Le.refl _) .nil)), List.nil_sublist _, List.nil_sublist _, by rw [h], rfl, rfl⟩
  simp only [cNd_eq n]
  refine Ok.of_exM [(3, 3), (6, 3)] Ty.mixed Tryz.func38 rfl (by simp [Tryz.ntmps38]) (by kernel_rfl) fun F w0 I0 => ?_
  simp only [↓rA, rB]
  refine fun b2 h2 => ?_; replace h2 := newb h2; try simp only [Nb] at h2
  simp only [↓rA, rB, Nat.reduceEqDiff]
  refine fun b3 h3 => ?_; replace h3 := newb h3; try simp only [Nb] at h3
  simp only [↓rA, rB, tbO40]
  refine fun b4 h4 => ?_; replace h4 := newb h4; try simp only [Nb] at h4
  by_cases c1 : n.inn.length = 1
  case neg =>
    have c1' : ¬ (n.inn.length : Int) = 1 := by omega
    simp only [↓rA, rB, Nat.reduceAdd, Nat.reduceEqDiff, tbO40, Tryz.results38, h4, List.length_map, c1']
    exact bad (by simp [chainM, c1]) _ _
  obtain ⟨k0, hk0⟩ : ∃ k, n.inn = [k] := by
    match hq : n.inn, c1 with
    | [k], _ => exact ⟨k, rfl⟩
  have hr0 := hn k0 (by rw [hk0]; exact List.mem_cons_self)
  obtain ⟨j0, rfl⟩ : ∃ j : Nat, k0 = (j : Int) := ⟨k0.toNat, by omega⟩
  have hj0 : j0 < g.length := by omega
  have ha0 : atN g (in0 n) = g[j0] := atN_get hj0 (by rw [in0, hk0]; rfl)
  have hw0 := hw j0 hj0
  simp only [↓rA, rB, Nat.reduceAdd, Nat.reduceEqDiff, tbO40, Tryz.results38, h11, h4, hk0]
  refine EX_invA Ty.mixed (by kernel_rfl) (by kernel_rfl) (InC3 b2 b3 b4 g n (j0 : Int) g[j0]) ?_ ?_ ?_
  · refine ⟨?_, ?_, ?_, ?_, fun h => (by cases h), fun h => (by cases h), fun h => (by cases h), fun h => (by cases h), fun h => (by cases h), fun h => (by cases h), fun h => (by cases h), fun h => (by cases h), .inl ⟨rfl, rfl, ?_⟩⟩ <;> first | rfl | simp only [rB, bxC, hk0] | simp only [bxC, hk0]
  · skip
    intro L S i o ho hL he ⟨gr, g2, g3, g4, f0, f1, f2, f3, f4, f5, f6, f7, hph⟩
    match i, ho with
    | 0, ho =>
      cases ho
      rcases hph with ⟨q8, q9, gb⟩ | ⟨q8, z, gz, hz, c, hc, hc9, gb⟩
      · simp only [↓rA, rB, tbO40, g2]
        exact ⟨gr, g2, g3, g4, fun _ => rfl, f1, f2, f3, f4, f5, f6, f7, .inl ⟨q8, q9, gb⟩⟩
      · simp only [↓rA, rB, tbO40, g2]
        exact ⟨gr, g2, g3, g4, fun _ => rfl, f1, f2, f3, f4, f5, f6, f7, .inr ⟨q8, z, gz, hz, c, hc, hc9, gb⟩⟩
    | 1, ho =>
      cases ho
      have d0 := f0 (he ⟨0, .data⟩ (by simp) rfl)
      rcases hph with ⟨q8, q9, gb⟩ | ⟨q8, z, gz, hz, c, hc, hc9, gb⟩
      · simp only [↓rA, rB, tbO40, gb, h3, h4, d0]
        exact ⟨gr, g2, g3, g4, f0, fun _ => rfl, f2, f3, f4, f5, f6, f7, .inl ⟨q8, q9, gb⟩⟩
      · simp only [↓rA, rB, tbO40, gb, h3, h4, hz, d0]
        exact ⟨gr, g2, g3, g4, f0, fun _ => rfl, f2, f3, f4, f5, f6, f7, .inr ⟨q8, z, gz, hz, c, hc, hc9, gb⟩⟩
    | 2, ho =>
      cases ho
      rcases hph with ⟨q8, q9, gb⟩ | ⟨q8, z, gz, hz, c, hc, hc9, gb⟩
      · simp only [↓rA, rB, tbO40, g3]
        exact ⟨gr, g2, g3, g4, f0, f1, fun _ => rfl, f3, f4, f5, f6, f7, .inl ⟨q8, q9, gb⟩⟩
      · simp only [↓rA, rB, tbO40, g3]
        exact ⟨gr, g2, g3, g4, f0, f1, fun _ => rfl, f3, f4, f5, f6, f7, .inr ⟨q8, z, gz, hz, c, hc, hc9, gb⟩⟩
    | 3, ho =>
      cases ho
      have d2 := f2 (he ⟨2, .data⟩ (by simp) rfl)
      rcases hph with ⟨q8, q9, gb⟩ | ⟨q8, z, gz, hz, c, hc, hc9, gb⟩
      · simp only [↓rA, rB, tbO40, gb, h4, d2]
        exact ⟨gr, g2, g3, g4, f0, f1, f2, fun _ => rfl, f4, f5, f6, f7, .inl ⟨q8, q9, gb⟩⟩
      · simp only [↓rA, rB, tbO40, gb, h4, hz, d2]
        exact ⟨gr, g2, g3, g4, f0, f1, f2, fun _ => rfl, f4, f5, f6, f7, .inr ⟨q8, z, gz, hz, c, hc, hc9, gb⟩⟩
    | 4, ho =>
      cases ho
      have d3 := f3 (he ⟨3, .data⟩ (by simp) rfl)
      rcases hph with ⟨q8, q9, gb⟩ | ⟨q8, z, gz, hz, c, hc, hc9, gb⟩
      · simp only [↓rA, rB, Int.reduceToNat, tbO40, d3, hk0]
        exact ⟨gr, g2, g3, g4, f0, f1, f2, f3, fun _ => rfl, f5, f6, f7, .inl ⟨q8, q9, gb⟩⟩
      · simp only [↓rA, rB, Int.reduceToNat, tbO40, d3, hk0]
        exact ⟨gr, g2, g3, g4, f0, f1, f2, f3, fun _ => rfl, f5, f6, f7, .inr ⟨q8, z, gz, hz, c, hc, hc9, gb⟩⟩
    | 5, ho =>
      cases ho
      have d4 := f4 (he ⟨4, .data⟩ (by simp) rfl)
      rcases hph with ⟨q8, q9, gb⟩ | ⟨q8, z, gz, hz, c, hc, hc9, gb⟩
      · simp only [↓rA, rB, tbO40, d4]
        exact ⟨gr, g2, g3, g4, f0, f1, f2, f3, f4, fun _ => rfl, f6, f7, .inl ⟨q8, q9, gb⟩⟩
      · simp only [↓rA, rB, tbO40, d4]
        exact ⟨gr, g2, g3, g4, f0, f1, f2, f3, f4, fun _ => rfl, f6, f7, .inr ⟨q8, z, gz, hz, c, hc, hc9, gb⟩⟩
    | 6, ho =>
      cases ho
      have d1 := f1 (he ⟨1, .data⟩ (by simp) rfl)
      have d5 := f5 (he ⟨5, .data⟩ (by simp) rfl)
      rcases hph with ⟨q8, q9, gb⟩ | ⟨q8, z, gz, hz, c, hc, hc9, gb⟩
      · simp only [↓rA, rB, tbO40, d1, d5, Int.ofNat_lt, hj0, List.length_map, getD_map _ _ _ hj0]
        exact ⟨gr, g2, g3, g4, f0, f1, f2, f3, f4, f5, fun _ => rfl, f7, .inl ⟨q8, q9, gb⟩⟩
      · simp only [↓rA, rB, tbO40, d1, d5, Int.ofNat_lt, hj0, List.length_map, getD_map _ _ _ hj0]
        exact ⟨gr, g2, g3, g4, f0, f1, f2, f3, f4, f5, fun _ => rfl, f7, .inr ⟨q8, z, gz, hz, c, hc, hc9, gb⟩⟩
    | 7, ho =>
      cases ho
      have d6 := f6 (he ⟨6, .data⟩ (by simp) rfl)
      rcases hph with ⟨q8, q9, gb⟩ | ⟨q8, z, gz, hz, c, hc, hc9, gb⟩
      · simp only [↓rA, rB, Nat.reduceAdd, tbO40, d6, cNd_eq]
        exact ⟨gr, g2, g3, g4, f0, f1, f2, f3, f4, f5, f6, fun _ => rfl, .inl ⟨q8, q9, gb⟩⟩
      · simp only [↓rA, rB, Nat.reduceAdd, tbO40, d6, cNd_eq]
        exact ⟨gr, g2, g3, g4, f0, f1, f2, f3, f4, f5, f6, fun _ => rfl, .inr ⟨q8, z, gz, hz, c, hc, hc9, gb⟩⟩
    | 8, ho =>
      cases ho
      rcases hph with ⟨q8, q9, gb⟩ | ⟨q8, _⟩
      · simp only [↓rA, rB, tbO40, gr, gb]
        refine fun z hz => ?_; replace hz := newb hz; try simp only [Nb] at hz
        simp only [↓rA, rB]
        exact ⟨gr, g2, g3, g4, f0, f1, f2, f3, f4, f5, f6, f7, .inr ⟨rfl, z, rfl, ⟨hz.2.2.1, hz.2.1, hz.1⟩, zN, rfl, fun h => Bool.noConfusion (Eq.trans (Eq.symm q9) (show L 9 = true from h)), by show (z, B.c zN) :: S.boxes = _; rw [gb]⟩⟩
      · rw [q8] at hL; cases hL
    | 9, ho =>
      cases ho
      have d7 := f7 (he ⟨7, .data⟩ (by simp) rfl)
      have e8 := he ⟨8, .data⟩ (by simp) rfl
      replace e8 : L 8 = true := e8
      rcases hph with ⟨q8, _⟩ | ⟨q8, z, gz, hz, c, hc, hc9, gb⟩
      · rw [q8] at e8; cases e8
      · have hd : c.drop 23 = [] := List.drop_of_length_le (by omega)
        simp only [↓rA, rB, Nat.reduceAdd, tbO40, gb, gz, d7, hc, hd]
        exact ⟨gr, g2, g3, g4, f0, f1, f2, f3, f4, f5, f6, f7, .inr ⟨q8, z, gz, hz, _, rfl, fun _ => rfl, rfl⟩⟩
    | n + 10, ho => cases ho
  · skip
    intro L S hL ⟨gr, g2, g3, g4, f0, f1, f2, f3, f4, f5, f6, f7, hph⟩
    replace hL : ∀ i, i < 10 → L i = true := hL
    have e8 := hL 8 (by decide)
    rcases hph with ⟨q8, _⟩ | ⟨q8, b6, g6, h6, c, hc, hc9, gb⟩
    · rw [q8] at e8; cases e8
    obtain rfl := hc9 (hL 9 (by decide))
    clear f0 f1 f2 f3 f4 f5 f6 f7
    by_cases c2 : g[j0].kind = 3
    case neg =>
      simp only [↓rA, rB, Nat.reduceAdd, Nat.reduceEqDiff, tbO40, gr, g4, g6, gb, h6, c2]
      exact bad (by simp [chainM, c1, ha0, c2]) _ _
    by_cases c3 : g[j0].inn.length = 1
    case neg =>
      have c3' : ¬ (g[j0].inn.length : Int) = 1 := by omega
      simp only [↓rA, rB, Nat.reduceAdd, Nat.reduceEqDiff, tbO40, gr, g4, g6, gb, h6, c2, List.length_map, c3']
      exact bad (by simp [chainM, c1, ha0, c2, c3]) _ _
    obtain ⟨k1, hk1⟩ : ∃ k, g[j0].inn = [k] := by
      match hq : g[j0].inn, c3 with
      | [k], _ => exact ⟨k, rfl⟩
    have hr1 := hw0 k1 (by rw [hk1]; exact List.mem_cons_self)
    obtain ⟨j1, rfl⟩ : ∃ j : Nat, k1 = (j : Int) := ⟨k1.toNat, by omega⟩
    have hj1 : j1 < g.length := by omega
    have ha1 : atN g (in0 g[j0]) = g[j1] := atN_get hj1 (by rw [in0, hk1]; rfl)
    have hw1 := hw j1 hj1
    simp only [↓rA, rB, Nat.reduceAdd, Nat.reduceEqDiff, tbO40, h11, g6, gb, c2, hk1]
    refine EX_invA Ty.mixed (by kernel_rfl) (by kernel_rfl) (InC6 b2 b3 b4 b6 g[j0] g n (j1 : Int) g[j1]) ?_ ?_ ?_
    · refine ⟨?_, ?_, ?_, ?_, ?_, fun h => (by cases h), fun h => (by cases h), fun h => (by cases h), fun h => (by cases h), fun h => (by cases h), fun h => (by cases h), fun h => (by cases h), fun h => (by cases h), .inl ⟨rfl, rfl, ?_⟩⟩ <;> first | rfl | simp only [rB, Nat.reduceEqDiff, gr, g2, g3, g4, g6, gb] | simp only [bxC, hk1]
    · clear gb gr g2 g3 g4 g6
      intro L S i o ho hL he ⟨gr, g2, g3, g4, g6, f0, f1, f2, f3, f4, f5, f6, f7, hph⟩
      match i, ho with
      | 0, ho =>
        cases ho
        rcases hph with ⟨q8, q9, gb⟩ | ⟨q8, z, gz, hz, c, hc, hc9, gb⟩
        · simp only [↓rA, rB, tbO40, g2]
          exact ⟨gr, g2, g3, g4, g6, fun _ => rfl, f1, f2, f3, f4, f5, f6, f7, .inl ⟨q8, q9, gb⟩⟩
        · simp only [↓rA, rB, tbO40, g2]
          exact ⟨gr, g2, g3, g4, g6, fun _ => rfl, f1, f2, f3, f4, f5, f6, f7, .inr ⟨q8, z, gz, hz, c, hc, hc9, gb⟩⟩
      | 1, ho =>
        cases ho
        have d0 := f0 (he ⟨0, .data⟩ (by simp) rfl)
        rcases hph with ⟨q8, q9, gb⟩ | ⟨q8, z, gz, hz, c, hc, hc9, gb⟩
        · simp only [↓rA, rB, tbO40, gb, h3, h4, h6, d0]
          exact ⟨gr, g2, g3, g4, g6, f0, fun _ => rfl, f2, f3, f4, f5, f6, f7, .inl ⟨q8, q9, gb⟩⟩
        · simp only [↓rA, rB, tbO40, gb, h3, h4, h6, hz, d0]
          exact ⟨gr, g2, g3, g4, g6, f0, fun _ => rfl, f2, f3, f4, f5, f6, f7, .inr ⟨q8, z, gz, hz, c, hc, hc9, gb⟩⟩
      | 2, ho =>
        cases ho
        rcases hph with ⟨q8, q9, gb⟩ | ⟨q8, z, gz, hz, c, hc, hc9, gb⟩
        · simp only [↓rA, rB, tbO40, g6]
          exact ⟨gr, g2, g3, g4, g6, f0, f1, fun _ => rfl, f3, f4, f5, f6, f7, .inl ⟨q8, q9, gb⟩⟩
        · simp only [↓rA, rB, tbO40, g6]
          exact ⟨gr, g2, g3, g4, g6, f0, f1, fun _ => rfl, f3, f4, f5, f6, f7, .inr ⟨q8, z, gz, hz, c, hc, hc9, gb⟩⟩
      | 3, ho =>
        cases ho
        have d2 := f2 (he ⟨2, .data⟩ (by simp) rfl)
        rcases hph with ⟨q8, q9, gb⟩ | ⟨q8, z, gz, hz, c, hc, hc9, gb⟩
        · simp only [↓rA, rB, tbO40, gb, d2]
          exact ⟨gr, g2, g3, g4, g6, f0, f1, f2, fun _ => rfl, f4, f5, f6, f7, .inl ⟨q8, q9, gb⟩⟩
        · simp only [↓rA, rB, tbO40, gb, hz, d2]
          exact ⟨gr, g2, g3, g4, g6, f0, f1, f2, fun _ => rfl, f4, f5, f6, f7, .inr ⟨q8, z, gz, hz, c, hc, hc9, gb⟩⟩
      | 4, ho =>
        cases ho
        have d3 := f3 (he ⟨3, .data⟩ (by simp) rfl)
        rcases hph with ⟨q8, q9, gb⟩ | ⟨q8, z, gz, hz, c, hc, hc9, gb⟩
        · simp only [↓rA, rB, Int.reduceToNat, tbO40, d3, hk1]
          exact ⟨gr, g2, g3, g4, g6, f0, f1, f2, f3, fun _ => rfl, f5, f6, f7, .inl ⟨q8, q9, gb⟩⟩
        · simp only [↓rA, rB, Int.reduceToNat, tbO40, d3, hk1]
          exact ⟨gr, g2, g3, g4, g6, f0, f1, f2, f3, fun _ => rfl, f5, f6, f7, .inr ⟨q8, z, gz, hz, c, hc, hc9, gb⟩⟩
      | 5, ho =>
        cases ho
        have d4 := f4 (he ⟨4, .data⟩ (by simp) rfl)
        rcases hph with ⟨q8, q9, gb⟩ | ⟨q8, z, gz, hz, c, hc, hc9, gb⟩
        · simp only [↓rA, rB, tbO40, d4]
          exact ⟨gr, g2, g3, g4, g6, f0, f1, f2, f3, f4, fun _ => rfl, f6, f7, .inl ⟨q8, q9, gb⟩⟩
        · simp only [↓rA, rB, tbO40, d4]
          exact ⟨gr, g2, g3, g4, g6, f0, f1, f2, f3, f4, fun _ => rfl, f6, f7, .inr ⟨q8, z, gz, hz, c, hc, hc9, gb⟩⟩
      | 6, ho =>
        cases ho
        have d1 := f1 (he ⟨1, .data⟩ (by simp) rfl)
        have d5 := f5 (he ⟨5, .data⟩ (by simp) rfl)
        rcases hph with ⟨q8, q9, gb⟩ | ⟨q8, z, gz, hz, c, hc, hc9, gb⟩
        · simp only [↓rA, rB, tbO40, d1, d5, Int.ofNat_lt, hj1, List.length_map, getD_map _ _ _ hj1]
          exact ⟨gr, g2, g3, g4, g6, f0, f1, f2, f3, f4, f5, fun _ => rfl, f7, .inl ⟨q8, q9, gb⟩⟩
        · simp only [↓rA, rB, tbO40, d1, d5, Int.ofNat_lt, hj1, List.length_map, getD_map _ _ _ hj1]
          exact ⟨gr, g2, g3, g4, g6, f0, f1, f2, f3, f4, f5, fun _ => rfl, f7, .inr ⟨q8, z, gz, hz, c, hc, hc9, gb⟩⟩
      | 7, ho =>
        cases ho
        have d6 := f6 (he ⟨6, .data⟩ (by simp) rfl)
        rcases hph with ⟨q8, q9, gb⟩ | ⟨q8, z, gz, hz, c, hc, hc9, gb⟩
        · simp only [↓rA, rB, Nat.reduceAdd, tbO40, d6, cNd_eq]
          exact ⟨gr, g2, g3, g4, g6, f0, f1, f2, f3, f4, f5, f6, fun _ => rfl, .inl ⟨q8, q9, gb⟩⟩
        · simp only [↓rA, rB, Nat.reduceAdd, tbO40, d6, cNd_eq]
          exact ⟨gr, g2, g3, g4, g6, f0, f1, f2, f3, f4, f5, f6, fun _ => rfl, .inr ⟨q8, z, gz, hz, c, hc, hc9, gb⟩⟩
      | 8, ho =>
        cases ho
        rcases hph with ⟨q8, q9, gb⟩ | ⟨q8, _⟩
        · simp only [↓rA, rB, tbO40, gr, gb]
          refine fun z hz => ?_; replace hz := newb hz; try simp only [Nb] at hz
          simp only [↓rA, rB]
          exact ⟨gr, g2, g3, g4, g6, f0, f1, f2, f3, f4, f5, f6, f7, .inr ⟨rfl, z, rfl, ⟨hz.2.2.2.1, hz.2.2.1, hz.2.1, hz.1⟩, zN, rfl, fun h => Bool.noConfusion (Eq.trans (Eq.symm q9) (show L 9 = true from h)), by show (z, B.c zN) :: S.boxes = _; rw [gb]⟩⟩
        · rw [q8] at hL; cases hL
      | 9, ho =>
        cases ho
        have d7 := f7 (he ⟨7, .data⟩ (by simp) rfl)
        have e8 := he ⟨8, .data⟩ (by simp) rfl
        replace e8 : L 8 = true := e8
        rcases hph with ⟨q8, _⟩ | ⟨q8, z, gz, hz, c, hc, hc9, gb⟩
        · rw [q8] at e8; cases e8
        · have hd : c.drop 23 = [] := List.drop_of_length_le (by omega)
          simp only [↓rA, rB, Nat.reduceAdd, tbO40, gb, gz, d7, hc, hd]
          exact ⟨gr, g2, g3, g4, g6, f0, f1, f2, f3, f4, f5, f6, f7, .inr ⟨q8, z, gz, hz, _, rfl, fun _ => rfl, rfl⟩⟩
      | n + 10, ho => cases ho
    · clear gb gr g2 g3 g4 g6
      intro L S hL ⟨gr, g2, g3, g4, g6, f0, f1, f2, f3, f4, f5, f6, f7, hph⟩
      replace hL : ∀ i, i < 10 → L i = true := hL
      have e8 := hL 8 (by decide)
      rcases hph with ⟨q8, _⟩ | ⟨q8, b7, g7, h7, c, hc, hc9, gb⟩
      · rw [q8] at e8; cases e8
      obtain rfl := hc9 (hL 9 (by decide))
      clear f0 f1 f2 f3 f4 f5 f6 f7
      by_cases c4 : g[j1].kind = 2
      case neg =>
        simp only [↓rA, rB, Nat.reduceAdd, Nat.reduceEqDiff, tbO40, gr, g4, g7, gb, h6, h7, c4]
        exact bad (by simp [chainM, c1, ha0, c2, c3, ha1, c4]) _ _
      by_cases c5 : g[j1].inn.length = 1
      case neg =>
        have c5' : ¬ (g[j1].inn.length : Int) = 1 := by omega
        simp only [↓rA, rB, Nat.reduceAdd, Nat.reduceEqDiff, tbO40, gr, g4, g7, gb, h6, h7, c4, List.length_map, c5']
        exact bad (by simp [chainM, c1, ha0, c2, c3, ha1, c4, c5]) _ _
      obtain ⟨k2, hk2⟩ : ∃ k, g[j1].inn = [k] := by
        match hq : g[j1].inn, c5 with
        | [k], _ => exact ⟨k, rfl⟩
      have hr2 := hw1 k2 (by rw [hk2]; exact List.mem_cons_self)
      obtain ⟨j2, rfl⟩ : ∃ j : Nat, k2 = (j : Int) := ⟨k2.toNat, by omega⟩
      have hj2 : j2 < g.length := by omega
      have ha2 : atN g (in0 g[j1]) = g[j2] := atN_get hj2 (by rw [in0, hk2]; rfl)
      by_cases c6 : g[j2].kind = 1
      case neg =>
        simp only [↓rA, rB, Int.reduceLT, Int.reduceToNat, Nat.reduceAdd, Nat.reduceEqDiff, tbO40, h11, gr, g2, g4, g7, gb, h3, h4, h6, h7, c4, hk2, Int.ofNat_lt, hj2, List.length_map, getD_map _ _ _ hj2, cNd_eq, c6]
        exact bad (by simp [chainM, c1, ha0, c2, c3, ha1, c4, c5, ha2, c6]) _ _
      simp only [↓rA, rB, Int.reduceLT, Int.reduceToNat, Nat.reduceAdd, Nat.reduceEqDiff, Nat.reduceLT, Nat.reduceLeDiff, Nat.reduceMul, tbO40, h11, gr, g2, g3, g4, g6, g7, gb, h3, h4, h6, h7, c4, hk2, Int.ofNat_lt, hj2, List.length_map, getD_map _ _ _ hj2, cNd_eq, c6]
      have hM : chainM g n = (.mk ⟨5, n.op, es0, g[j2].table, val0, [], n.param, n.wk, n.ws⟩ [g[j0].expr, g[j1].expr], true) := by simp [chainM, c1, ha0, c2, c3, ha1, c4, c5, ha2, c6]
      refine ⟨_, [], [], leTup (.cons (leE (h := ⟨5, n.op, es0, g[j2].table, val0, [], n.param, n.wk, n.ws⟩) (l := [g[j0].expr, g[j1].expr]) (Le.nil 2) ?_) (.cons (Le.refl _) .nil)), List.nil_sublist _, List.nil_sublist _, by rw [hM], rfl, rfl⟩
      simp only [vEs, List.map_cons, List.map_nil, cE_eq]
      first | exact Le.refl _ | exact Le.list _ _ _
end Go.Proofs.YtphkmlogjgeipaaGreatDoor

/- Contracts of the reference's lowering, part e: a graph is unfolded from an index (seat of LowerMatchesRaise). -/
set_option linter.unusedSimpArgs false
set_option maxRecDepth 100000
namespace Go.Lo
open Go.VL Go.Ar
/-- Operands are put on, one by one, as long as all may stand. -/
def foldU (rec : Int → E × Bool) : List Int → E × Bool → E × Bool
  | [], p => p
  | t :: r, p => if p.2 = true then foldU rec r (.mk p.1.hd (p.1.args ++ [(rec t).1]), (rec t).2) else p
theorem foldU_snoc (rec : Int → E × Bool) : ∀ (l : List Int) (t : Int) (p : E × Bool), foldU rec (l ++ [t]) p = if (foldU rec l p).2 = true then (.mk (foldU rec l p).1.hd ((foldU rec l p).1.args ++ [(rec t).1]), (rec t).2) else foldU rec l p
  | [], t, p => by
    simp only [List.nil_append, foldU]
    try rfl
  | x :: r, t, p => by
    simp only [List.cons_append, foldU]
    split
    · exact foldU_snoc rec r t _
    · rename_i h; first | rw [if_neg h] | rfl
/-- The node at k, unfolded; f: how deep at most. -/
def unfM (g : List Nd) : Nat → Int → E × Bool
  | 0, _ => (exp0, false)
  | f + 1, k => if (atN g k).kind = 4 then chainM g (atN g k) else foldU (unfM g f) (atN g k).inn (rawM (atN g k) (atN g k).inn.length)
theorem foldU_congr {rec rec' : Int → E × Bool} : ∀ {l : List Int} (p : E × Bool), (∀ t ∈ l, rec t = rec' t) → foldU rec l p = foldU rec' l p
  | [], p, _ => rfl
  | x :: r, p, h => by
    simp only [foldU]
    rw [h x List.mem_cons_self, foldU_congr _ fun t ht => h t (List.mem_cons_of_mem _ ht)]
theorem unfM_fuel {g : List Nd} (hw : WF g) : ∀ (f k : Nat), k < f → k < g.length → unfM g f k = unfM g (k + 1) k := by
  intro f
  induction f using Nat.strongRecOn with
  | ind f ih =>
  intro k hk hkl
  cases f with
  | zero => exact absurd hk (Nat.not_lt_zero k)
  | succ f =>
    have hat : atN g (k : Int) = g[k] := atN_get hkl rfl
    simp only [unfM]
    split
    · rfl
    · refine foldU_congr _ fun t ht => ?_
      rw [hat] at ht
      obtain ⟨t0, t1⟩ := hw k hkl t ht
      obtain ⟨u, rfl⟩ : ∃ u : Nat, t = (u : Int) := ⟨t.toNat, by omega⟩
      rw [ih f (by omega) u (by omega) (by omega)]
      by_cases e : k = f
      · subst e
        rw [ih k (by omega) u (by omega) (by omega)]
      · rw [ih k (by omega) u (by omega) (by omega)]
end Go.Lo

/- Contracts of the reference's lowering, part b2: one node is raised, its operands' slice nil (seat of LowerMatchesRaise). -/
set_option linter.unusedSimpArgs false
set_option maxRecDepth 100000
namespace Go.Proofs.YtphkmlogjgeipaaGreatDoor
open Go.VL Go.Ar Go.Lo Go.Proofs.YtphkmlogjgeipaaGreatDoor
set_option linter.defProp false in
def tbO2b0 := (aI (aI (aI (aI (aI (aI Ty.sz3 (aI Ty.by3 Ty.ag3)) (aI Ty.zr3 (aI Ty.un3 Ty.sz4))) (aI (aI Ty.by4 (aI Ty.ag4 Ty.zr4)) (aI Ty.un4 (aI Ty.sz9 Ty.by9)))) (aI (aI (aI Ty.ag9 (aI Ty.zr9 Ty.un9)) (aI Ty.sz28 (aI Ty.by28 Ty.ag28))) (aI (aI Ty.zr28 (aI Ty.fl28_0 Ty.pl28_0)) (aI (aI Ty.fl28_1 Ty.pl28_1) (aI Ty.fl28_2 Ty.pl28_2))))) (aI (aI (aI (aI Ty.sz29 (aI Ty.by29 Ty.ag29)) (aI Ty.zr29 (aI Ty.un29 Ty.sz31))) (aI (aI Ty.by31 (aI Ty.ag31 Ty.zr31)) (aI (aI Ty.fl31_0 Ty.pl31_0) (aI Ty.fl31_1 Ty.pl31_1)))) (aI (aI (aI Ty.sz32 (aI Ty.by32 Ty.ag32)) (aI Ty.zr32 (aI Ty.un32 Ty.sz34))) (aI (aI Ty.by34 (aI Ty.ag34 Ty.zr34)) (aI (aI Ty.fl34_0 Ty.pl34_0) (aI Ty.fl34_1 Ty.pl34_1)))))) (aI (aI (aI (aI (aI Ty.fl34_2 (aI Ty.pl34_2 Ty.fl34_3)) (aI Ty.pl34_3 (aI Ty.fl34_4 Ty.pl34_4))) (aI (aI Ty.fl34_5 (aI Ty.pl34_5 Ty.fl34_6)) (aI (aI Ty.pl34_6 Ty.fl34_7) (aI Ty.pl34_7 Ty.fl34_8)))) (aI (aI (aI Ty.pl34_8 (aI Ty.sz45 Ty.by45)) (aI Ty.ag45 (aI Ty.zr45 Ty.un45))) (aI (aI Ty.sz47 (aI Ty.by47 Ty.ag47)) (aI (aI Ty.zr47 Ty.fl47_0) (aI Ty.pl47_0 Ty.fl47_1))))) (aI (aI (aI (aI Ty.pl47_1 (aI Ty.fl47_2 Ty.pl47_2)) (aI Ty.fl47_3 (aI Ty.pl47_3 Ty.fl47_4))) (aI (aI Ty.pl47_4 (aI Ty.fl47_5 Ty.pl47_5)) (aI (aI Ty.fl47_6 Ty.pl47_6) (aI Ty.fl47_7 Ty.pl47_7)))) (aI (aI (aI Ty.fl47_8 (aI Ty.pl47_8 Ty.sz103)) (aI Ty.by103 (aI Ty.ag103 Ty.zr103))) (aI (aI Ty.fl103_0 (aI Ty.pl103_0 Ty.fl103_1)) (aI (aI Ty.pl103_1 Ty.eq28) (aI Ty.eq31 Ty.eq103)))))))
theorem raiseN_ok (n : Nd) (hl : n.inn.length ≤ 1048576) (n5 : ¬ n.kind = 5) : OkP Tryz.prog 39 [.agg (cNd n)] (.tup [.agg (cHu (rawM n n.inn.length).1.hd nilS nilS), vbool (rawM n n.inn.length).2]) := by
  have fin : ∀ (h : Hd) (u a : V) (b : Bool) (X : List (Nat × B)) (Y : List Row), h.unit = [] → u = nilS → a = nilS → rawM n n.inn.length = (.mk h [], b) →
      ∃ v bs' rs', Le (.tup [.agg [vint h.kind, vstr h.op, vstr h.name, vstr h.table, vint h.val.kind, vint h.val.n, vstr h.val.s, u, vint h.param, vint h.wk, vint h.ws, a], .lit (.bool b)]) v ∧ bs'.Sublist X ∧ rs'.Sublist Y ∧ v = .tup [.agg (cHu (rawM n n.inn.length).1.hd nilS nilS), vbool (rawM n n.inn.length).2] ∧ bs' = [] ∧ rs' = [] := by
    intro h u a b X Y hu hlu hla hM
    subst hlu hla
    exact ⟨_, [], [], Le.refl _, List.nil_sublist _, List.nil_sublist _, by rw [hM]; rfl, rfl, rfl⟩
  have z2 : nilS = nilS := rfl
  have z12 : nilS = nilS := rfl
  simp only [cNd_eq n]
  refine Ok.of_ex Ty.mixed Tryz.func39 rfl (by simp [Tryz.ntmps39]) (by kernel_rfl) fun F w0 I0 => ?_
  simp only [↓rA, rB]
  refine fun b1 h1 => ?_; replace h1 := newb h1; try simp only [Nb] at h1
  simp only [↓rA, rB, tbO2b0]
  refine fun b2 h2 => ?_; replace h2 := newb h2; try simp only [Nb] at h2
  have e5 := n5
  by_cases e6 : n.kind = 6
  · by_cases k0 : n.inn.length = 0
    · have k0' : (n.inn.length : Int) = 0 := by omega
      simp only [↓rA, rB, Int.reduceEq, Nat.reduceAdd, Nat.reduceEqDiff, Nat.reduceLeDiff, tbO2b0, Tryz.results39, h2, e6, List.length_map, k0']
      exact fin { hd0 3 with name := n.name } _ _ true _ _ rfl z2 z12 (by simp [rawM, e6, k0])
    · have k0' : ¬ (n.inn.length : Int) = 0 := by omega
      simp only [↓rA, rB, Int.reduceEq, Nat.reduceAdd, Nat.reduceEqDiff, Nat.reduceLeDiff, tbO2b0, Tryz.results39, h2, e6, List.length_map, k0']
      exact fin { hd0 3 with name := n.name } _ _ false _ _ rfl z2 z12 (by simp [rawM, e6, k0])
  by_cases e7 : n.kind = 7
  · by_cases k0 : n.inn.length = 1
    · have k0' : (n.inn.length : Int) = 1 := by omega
      simp only [↓rA, rB, Int.reduceEq, Nat.reduceAdd, Nat.reduceEqDiff, Nat.reduceLeDiff, tbO2b0, Tryz.results39, h2, e7, List.length_map, k0']
      exact fin { hd0 4 with name := n.name } _ _ true _ _ rfl z2 z12 (by simp [rawM, e7, k0])
    · have k0' : ¬ (n.inn.length : Int) = 1 := by omega
      simp only [↓rA, rB, Int.reduceEq, Nat.reduceAdd, Nat.reduceEqDiff, Nat.reduceLeDiff, tbO2b0, Tryz.results39, h2, e7, List.length_map, k0']
      exact fin { hd0 4 with name := n.name } _ _ false _ _ rfl z2 z12 (by simp [rawM, e7, k0])
  by_cases e8 : n.kind = 8
  case neg =>
    simp only [↓rA, rB, Nat.reduceAdd, Nat.reduceEqDiff, tbO2b0, Tryz.results39, h2, e5, e6, e7, e8]
    exact fin (hd0 0) _ _ false _ _ rfl z2 z12 (by simp [rawM, e5, e6, e7, e8])
  have sd : ¬ sIf = sDefault := by decide
  by_cases k3 : n.op = sIf ∧ n.inn.length = 3
  · have k3' : (n.inn.length : Int) = 3 := by omega
    have o1 : n.op = ({ data := #[105, 102] } : ByteArray) := k3.1
    simp only [↓rA, rB, Int.reduceEq, Nat.reduceAdd, Nat.reduceEqDiff, Nat.reduceLeDiff, tbO2b0, Tryz.results39, h2, e8, List.length_map, k3', o1]
    exact fin (hd0 8) _ _ true _ _ rfl z2 z12 (by simp [rawM, e8, k3])
  have dn : ¬ (({ data := #[100, 101, 102, 97, 117, 108, 116] } : ByteArray) = { data := #[105, 102] }) := by decide
  have dn' : ¬ (({ data := #[105, 102] } : ByteArray) = { data := #[100, 101, 102, 97, 117, 108, 116] }) := by decide
  by_cases kd : n.op = sDefault ∧ n.inn.length = 2
  · have k2' : (n.inn.length : Int) = 2 := by omega
    have o2 : n.op = ({ data := #[100, 101, 102, 97, 117, 108, 116] } : ByteArray) := kd.1
    have n22 : ¬ ((2 : Int) = 3) := by decide
    simp only [↓rA, rB, Int.reduceEq, Nat.reduceAdd, Nat.reduceEqDiff, Nat.reduceLeDiff, tbO2b0, Tryz.results39, h2, e8, List.length_map, k2', o2, dn]
    exact fin (hd0 9) _ _ true _ _ rfl z2 z12 (by simp [rawM, e8, kd])
  have hraw : ∀ r : E × Bool, (if n.inn.length = 1 then (E.mk { hd0 6 with op := n.op } [], true) else (E.mk { hd0 7 with op := n.op } [], decide (n.inn.length = 2))) = r → rawM n n.inn.length = r := fun r h => by
    rw [← h, rawM, if_neg e5, if_neg e6, if_neg e7, if_pos e8, if_neg k3, if_neg kd]
  by_cases oi : n.op = ({ data := #[105, 102] } : ByteArray)
  · have n3 : ¬ (n.inn.length : Int) = 3 := fun h => k3 ⟨oi, by omega⟩
    by_cases k1 : n.inn.length = 1
    · have k1' : (n.inn.length : Int) = 1 := by omega
      have n12 : ¬ ((1 : Int) = 3) := by decide
      have n13 : ¬ ((1 : Int) = 2) := by decide
      simp only [↓rA, rB, Int.reduceEq, Nat.reduceAdd, Nat.reduceEqDiff, Nat.reduceLeDiff, tbO2b0, Tryz.results39, h2, e8, List.length_map, k1', n12, oi, dn']
      exact fin { hd0 6 with op := sIf } _ _ true _ _ rfl z2 z12 (hraw _ (by rw [if_pos k1, oi]))
    have k1' : ¬ (n.inn.length : Int) = 1 := by omega
    by_cases k2 : n.inn.length = 2
    · have k2' : (n.inn.length : Int) = 2 := by omega
      have n22 : ¬ ((2 : Int) = 3) := by decide
      have n21 : ¬ ((2 : Int) = 1) := by decide
      simp only [↓rA, rB, Int.reduceEq, Nat.reduceAdd, Nat.reduceEqDiff, Nat.reduceLeDiff, tbO2b0, Tryz.results39, h2, e8, List.length_map, k2', n22, n21, oi, dn']
      exact fin { hd0 7 with op := sIf } _ _ true _ _ rfl z2 z12 (hraw _ (by rw [if_neg k1, oi, decide_eq_true k2]))
    · have k2' : ¬ (n.inn.length : Int) = 2 := by omega
      simp only [↓rA, rB, Int.reduceEq, Nat.reduceAdd, Nat.reduceEqDiff, Nat.reduceLeDiff, tbO2b0, Tryz.results39, h2, e8, List.length_map, n3, k1', k2', oi, dn']
      exact fin { hd0 7 with op := sIf } _ _ false _ _ rfl z2 z12 (hraw _ (by rw [if_neg k1, oi, decide_eq_false k2]))
  by_cases od : n.op = ({ data := #[100, 101, 102, 97, 117, 108, 116] } : ByteArray)
  · have n2 : ¬ (n.inn.length : Int) = 2 := fun h => kd ⟨od, by omega⟩
    have k2 : ¬ n.inn.length = 2 := by omega
    by_cases k1 : n.inn.length = 1
    · have k1' : (n.inn.length : Int) = 1 := by omega
      have n13 : ¬ ((1 : Int) = 2) := by decide
      simp only [↓rA, rB, Int.reduceEq, Nat.reduceAdd, Nat.reduceEqDiff, Nat.reduceLeDiff, tbO2b0, Tryz.results39, h2, e8, List.length_map, k1', n13, od, dn]
      exact fin { hd0 6 with op := sDefault } _ _ true _ _ rfl z2 z12 (hraw _ (by rw [if_pos k1, od]))
    have k1' : ¬ (n.inn.length : Int) = 1 := by omega
    simp only [↓rA, rB, Int.reduceEq, Nat.reduceAdd, Nat.reduceEqDiff, Nat.reduceLeDiff, tbO2b0, Tryz.results39, h2, e8, List.length_map, k1', n2, od, dn]
    exact fin { hd0 7 with op := sDefault } _ _ false _ _ rfl z2 z12 (hraw _ (by rw [if_neg k1, od, decide_eq_false k2]))
  by_cases k1 : n.inn.length = 1
  · have k1' : (n.inn.length : Int) = 1 := by omega
    simp only [↓rA, rB, Int.reduceEq, Nat.reduceAdd, Nat.reduceEqDiff, Nat.reduceLeDiff, tbO2b0, Tryz.results39, h2, e8, List.length_map, k1', oi, od]
    exact fin { hd0 6 with op := n.op } _ _ true _ _ rfl z2 z12 (hraw _ (by rw [if_pos k1]))
  have k1' : ¬ (n.inn.length : Int) = 1 := by omega
  by_cases k2 : n.inn.length = 2
  · have k2' : (n.inn.length : Int) = 2 := by omega
    have n21 : ¬ ((2 : Int) = 1) := by decide
    simp only [↓rA, rB, Int.reduceEq, Nat.reduceAdd, Nat.reduceEqDiff, Nat.reduceLeDiff, tbO2b0, Tryz.results39, h2, e8, List.length_map, k2', n21, oi, od]
    exact fin { hd0 7 with op := n.op } _ _ true _ _ rfl z2 z12 (hraw _ (by rw [if_neg k1, decide_eq_true k2]))
  · have k2' : ¬ (n.inn.length : Int) = 2 := by omega
    simp only [↓rA, rB, Int.reduceEq, Nat.reduceAdd, Nat.reduceEqDiff, Nat.reduceLeDiff, tbO2b0, Tryz.results39, h2, e8, List.length_map, k1', k2', oi, od]
    exact fin { hd0 7 with op := n.op } _ _ false _ _ rfl z2 z12 (hraw _ (by rw [if_neg k1, decide_eq_false k2]))
end Go.Proofs.YtphkmlogjgeipaaGreatDoor

/- Contracts of the reference's lowering, part f: unfold (seat of LowerMatchesRaise). -/
set_option linter.unusedSimpArgs false
set_option maxRecDepth 100000
namespace Go.Lo
open Go.VL Go.Ar
theorem foldU_append (rec : Int → E × Bool) : ∀ (a b : List Int) (p : E × Bool), foldU rec (a ++ b) p = foldU rec b (foldU rec a p)
  | [], b, p => rfl
  | x :: a, b, p => by
    simp only [List.cons_append, foldU]
    split
    · exact foldU_append rec a b _
    · rename_i h
      have : ∀ b : List Int, foldU rec b p = p := fun b => by cases b <;> simp only [foldU]; rw [if_neg h]
      exact (this b).symm
theorem foldU_stay (rec : Int → E × Bool) (b : List Int) {p : E × Bool} (h : p.2 = false) : foldU rec b p = p := by
  cases b <;> simp only [foldU]
  rw [if_neg (by rw [h]; decide)]
theorem foldU_len (rec : Int → E × Bool) : ∀ (l : List Int) (p : E × Bool), (foldU rec l p).1.args.length ≤ p.1.args.length + l.length
  | [], p => Nat.le_refl _
  | x :: l, p => by
    simp only [foldU]
    split
    · have := foldU_len rec l (.mk p.1.hd (p.1.args ++ [(rec x).1]), (rec x).2)
      simp only [E.args, List.length_append, List.length_cons, List.length_nil] at this ⊢
      omega
    · simp only [List.length_cons]; omega
theorem foldU_hd (rec : Int → E × Bool) : ∀ (l : List Int) (p : E × Bool), (foldU rec l p).1.hd = p.1.hd
  | [], _ => rfl
  | x :: l, p => by
    simp only [foldU]
    split
    · rw [foldU_hd rec l]; rfl
    · rfl
end Go.Lo
namespace Go.Proofs.YtphkmlogjgeipaaGreatDoor
open Go.VL Go.Ar Go.Lo Go.Proofs.YtphkmlogjgeipaaGreatDoor
set_option linter.defProp false in
def tbO60 := (aI (aI (aI (aI (aI (aI Ty.sz3 (aI Ty.by3 Ty.ag3)) (aI (aI Ty.zr3 Ty.un3) (aI Ty.sz4 Ty.by4))) (aI (aI (aI Ty.ag4 Ty.zr4) (aI Ty.un4 Ty.sz9)) (aI (aI Ty.by9 Ty.ag9) (aI Ty.zr9 Ty.un9)))) (aI (aI (aI Ty.sz22 (aI Ty.by22 Ty.ag22)) (aI (aI Ty.zr22 Ty.un22) (aI Ty.sz24 Ty.by24))) (aI (aI (aI Ty.ag24 Ty.zr24) (aI Ty.fl24_0 Ty.pl24_0)) (aI (aI Ty.sz28 Ty.by28) (aI Ty.ag28 Ty.zr28))))) (aI (aI (aI (aI Ty.fl28_0 (aI Ty.pl28_0 Ty.fl28_1)) (aI (aI Ty.pl28_1 Ty.fl28_2) (aI Ty.pl28_2 Ty.sz29))) (aI (aI (aI Ty.by29 Ty.ag29) (aI Ty.zr29 Ty.un29)) (aI (aI Ty.sz31 Ty.by31) (aI Ty.ag31 Ty.zr31)))) (aI (aI (aI Ty.fl31_0 (aI Ty.pl31_0 Ty.fl31_1)) (aI (aI Ty.pl31_1 Ty.sz32) (aI Ty.by32 Ty.ag32))) (aI (aI (aI Ty.zr32 Ty.un32) (aI Ty.sz34 Ty.by34)) (aI (aI Ty.ag34 Ty.zr34) (aI Ty.fl34_0 Ty.pl34_0)))))) (aI (aI (aI (aI (aI Ty.fl34_1 (aI Ty.pl34_1 Ty.fl34_2)) (aI (aI Ty.pl34_2 Ty.fl34_3) (aI Ty.pl34_3 Ty.fl34_4))) (aI (aI (aI Ty.pl34_4 Ty.fl34_5) (aI Ty.pl34_5 Ty.fl34_6)) (aI (aI Ty.pl34_6 Ty.fl34_7) (aI Ty.pl34_7 Ty.fl34_8)))) (aI (aI (aI Ty.pl34_8 (aI Ty.sz45 Ty.by45)) (aI (aI Ty.ag45 Ty.zr45) (aI Ty.un45 Ty.sz47))) (aI (aI (aI Ty.by47 Ty.ag47) (aI Ty.zr47 Ty.fl47_0)) (aI (aI Ty.pl47_0 Ty.fl47_1) (aI Ty.pl47_1 Ty.fl47_2))))) (aI (aI (aI (aI Ty.pl47_2 (aI Ty.fl47_3 Ty.pl47_3)) (aI (aI Ty.fl47_4 Ty.pl47_4) (aI Ty.fl47_5 Ty.pl47_5))) (aI (aI (aI Ty.fl47_6 Ty.pl47_6) (aI Ty.fl47_7 Ty.pl47_7)) (aI (aI Ty.fl47_8 Ty.pl47_8) (aI Ty.sz64 Ty.by64)))) (aI (aI (aI Ty.ag64 (aI Ty.sz103 Ty.by103)) (aI (aI Ty.ag103 Ty.zr103) (aI Ty.fl103_0 Ty.pl103_0))) (aI (aI (aI Ty.fl103_1 Ty.pl103_1) (aI Ty.eq28 Ty.eq31)) (aI (aI Ty.eq103 Ty.cb23) (aI Ty.cb38 Ty.cb39)))))))
theorem unfold_ok (g : List Nd) (hw : WF g) (hsz : g.length ≤ 1048576) (hin : ∀ n ∈ g, n.inn.length ≤ 1048576) : ∀ (k : Nat), k < g.length → OkP Tryz.prog 23 [vG g, vint k] (.tup [vE (unfM g (k + 1) k).1, vbool (unfM g (k + 1) k).2]) := by
  intro k
  induction k using Nat.strongRecOn with
  | ind k ih =>
  intro hk
  have hat : atN g (k : Int) = g[k] := atN_get hk rfl
  have hwk := hw k hk
  have hinl := hin _ (List.getElem_mem hk)
  have hch := chain_ok g g[k] k (by omega) hw hwk
  have hra := raiseR_ok g[k] hinl
  simp only [unfM, hat]
  refine Ok.of_exM [(8, 1)] Ty.mixed Tryz.func23 rfl (by simp [Tryz.ntmps23]) (by kernel_rfl) fun F w0 I0 => ?_
  simp only [↓rA, rB]
  refine fun b2 h2 => ?_; replace h2 := newb h2; try simp only [Nb] at h2
  simp only [↓rA, rB, tbO60]
  refine fun b4 h4 => ?_; replace h4 := newb h4; try simp only [Nb] at h4
  simp only [↓rA, rB, Nat.reduceAdd, Nat.reduceEqDiff, tbO60, h4, Int.ofNat_lt, hk, List.length_map, getD_map _ _ _ hk, cNd_eq]
  refine fun b6 h6 => ?_; replace h6 := newb h6; try simp only [Nb] at h6
  by_cases e4 : g[k].kind = 4
  · rw [if_pos e4]
    simp only [cNd_eq, cN] at hch
    rw [e4] at hch
    simp only [vE, cE_eq] at hch ⊢
    simp only [↓rA, rB, Nat.reduceAdd, Nat.reduceEqDiff, tbO60, h4, h6, e4]
    refine OkF_of _ hch ?_
    simp only [↓rA, rB, Nat.reduceAdd, Nat.reduceEqDiff, tbO60, Tryz.results23, h6]
    exact ret_done rfl
  rw [if_neg e4]
  by_cases e5 : g[k].kind = 5
  · have hr1 : rawM g[k] g[k].inn.length = (g[k].expr, decide (g[k].inn.length = 0)) := by rw [rawM, if_pos e5]
    simp only [cNd_eq, vE, cE_eq] at hra ⊢
    rw [hr1] at hra ⊢
    simp only [↓rA, rB, Nat.reduceAdd, Nat.reduceEqDiff, tbO60, e4]
    refine OkF_of _ hra ?_
    by_cases l0 : g[k].inn.length = 0
    · have l0' : g[k].inn = [] := List.length_eq_zero_iff.1 l0
      simp only [↓rA, rB, Nat.reduceEqDiff, tbO60, l0]
      refine fun b7 h7 => ?_; replace h7 := newb h7; try simp only [Nb] at h7
      simp only [↓rA, rB, Nat.reduceAdd, Nat.reduceEqDiff, tbO60, Tryz.results23]
      refine EX_loop Ty.mixed (by kernel_rfl) (fun _ S => S.boxes = [(b7, .c (cH g[k].expr.hd (vEs g[k].expr.args))), (b6, .c (cN g[k] g[k].expr.hd (vEs g[k].expr.args) (vints g[k].inn))), (b4, .c zE), (b2, .c [vNds g])] ∧ S.rows = [] ∧ S.σ 4 = ptr b4 ∧ S.σ 6 = ptr b6 ∧ S.σ 7 = ptr b7 ∧ S.σ 8 = vbool true ∧ S.σ 9 = vint 0) 0 ?_ (fun _ S ⟨gb, gr, g4, g6, g7, g8, g9⟩ => ?_)
      · simp only [rB, Nat.reduceEqDiff]
        first | done | exact ⟨rfl, rfl⟩ | exact rfl
      · simp only [↓rA, rB, Int.reduceLT, Nat.reduceAdd, Nat.reduceEqDiff, tbO60, h6, h7, gb, gr, g4, g6, g7, g8, g9, l0, List.length_map]
        refine ret_done ?_
        rw [l0']
        rfl
    · simp only [↓rA, rB, Nat.reduceEqDiff, tbO60, l0]
      refine fun b7 h7 => ?_; replace h7 := newb h7; try simp only [Nb] at h7
      simp only [↓rA, rB, Nat.reduceAdd, Nat.reduceEqDiff, tbO60, Tryz.results23]
      refine EX_loop Ty.mixed (by kernel_rfl) (fun _ S => S.boxes = [(b7, .c (cH g[k].expr.hd (vEs g[k].expr.args))), (b6, .c (cN g[k] g[k].expr.hd (vEs g[k].expr.args) (vints g[k].inn))), (b4, .c zE), (b2, .c [vNds g])] ∧ S.rows = [] ∧ S.σ 4 = ptr b4 ∧ S.σ 6 = ptr b6 ∧ S.σ 7 = ptr b7 ∧ S.σ 8 = vbool false ∧ S.σ 9 = vint 0) 0 ?_ (fun _ S ⟨gb, gr, g4, g6, g7, g8, g9⟩ => ?_)
      · simp only [rB, Nat.reduceEqDiff]
        first | done | exact ⟨rfl, rfl⟩ | exact rfl
      · have l0' : (0 : Int) < g[k].inn.length := by omega
        simp only [↓rA, rB, Nat.reduceAdd, Nat.reduceEqDiff, tbO60, h6, h7, gb, gr, g4, g6, g7, g8, g9, l0', List.length_map]
        refine ret_done ?_
        rw [foldU_stay _ _ (decide_eq_false l0), decide_eq_false l0]
  have hrn := raiseN_ok g[k] hinl e5
  simp only [cNd_eq] at hrn
  generalize hp0 : rawM g[k] g[k].inn.length = p0 at hrn ⊢
  have hp0a : p0.1.args = [] := by
    rw [← hp0]
    unfold rawM
    rw [if_neg e5]
    repeat' split
    all_goals rfl
  have hp0u : p0.1.hd.unit = [] := by
    rw [← hp0]
    unfold rawM
    rw [if_neg e5]
    repeat' split
    all_goals rfl
  have hle : ∀ (y : Value) (L : List E) (b : Bool), Le (.tup [.agg (cHu p0.1.hd nilS (.list (some y) 12 (L.map cE))), vbool b]) (.tup [.agg (cH p0.1.hd (vEs L)), vbool b]) := fun y L b =>
    leTup (.cons (leH (by rw [hp0u]; exact Le.nil 2) (Le.list _ _ _)) (.cons (Le.refl _) .nil))
  simp only [↓rA, rB, Nat.reduceAdd, Nat.reduceEqDiff, tbO60, e4]
  refine OkF_of _ hrn ?_
  simp only [↓rA, rB, Nat.reduceEqDiff, tbO60]
  refine fun b7 h7 => ?_; replace h7 := newb h7; try simp only [Nb] at h7
  simp only [↓rA, rB, Nat.reduceAdd, Nat.reduceEqDiff, tbO60, Tryz.results23]
  have hn := And.intro h4 (And.intro h6 h7)
  refine EX_nilB (cs' := cHu p0.1.hd nilS (.list (some nilv) 12 [])) (k := 12) (e := 34) [] [(b6, .c (cN g[k] g[k].expr.hd (vEs g[k].expr.args) (vints g[k].inn))), (b4, .c zE), (b2, .c [vNds g])] (by simp only [rB]; try rfl)
    (.cons (Le.refl _) (.cons (Le.refl _) (.cons (Le.refl _) (.cons (Le.refl _) (.cons (Le.refl _) (.cons (Le.refl _) (.cons (Le.refl _) (.cons (Le.refl _) (.cons (Le.refl _) (.cons (Le.refl _) (.cons (Le.refl _) (.cons (Le.nilOwn 12) .nil)))))))))))) (by decide) ?_
  have hrec : ∀ i (h : i < g[k].inn.length), ∃ m : Nat, g[k].inn[i] = (m : Int) ∧ m < k ∧ m < g.length ∧ unfM g k (m : Int) = unfM g (m + 1) (m : Int) := fun i h => by
    obtain ⟨t0, t1⟩ := hwk _ (List.getElem_mem h)
    refine ⟨g[k].inn[i].toNat, by omega, by omega, by omega, unfM_fuel hw k _ (by omega) (by omega)⟩
  refine EX_whileS Ty.mixed (by kernel_rfl) (fun i : Nat => g[k].inn.length - i) (fun i S => i ≤ g[k].inn.length ∧ (∃ y, S.boxes = [(b7, .c (cHu p0.1.hd nilS (.list (some y) 12 ((foldU (unfM g k) (g[k].inn.take i) p0).1.args.map cE)))), (b6, .c (cN g[k] g[k].expr.hd (vEs g[k].expr.args) (vints g[k].inn))), (b4, .c zE), (b2, .c [vNds g])] ∧ S.rows = [⟨y, 12, 34⟩]) ∧
    S.σ 2 = ptr b2 ∧ S.σ 4 = ptr b4 ∧ S.σ 6 = ptr b6 ∧ S.σ 7 = ptr b7 ∧ S.σ 8 = vbool (foldU (unfM g k) (g[k].inn.take i) p0).2 ∧ S.σ 9 = vint i) 0 ⟨_, _, List.Sublist.refl _, List.Sublist.refl _, ?_⟩ (fun i S ⟨hi, ⟨y, gb, gr⟩, g2, g4, g6, g7, g8, g9⟩ => ?_)
  · simp only [rB, Nat.reduceEqDiff]
    simp only [foldU, hp0a, List.map_nil]
    exact ⟨⟨nilv, rfl, rfl⟩, trivial⟩
  · generalize hP : foldU (unfM g k) (g[k].inn.take i) p0 = P at gb g8
    have hPh : P.1.hd = p0.1.hd := by rw [← hP]; exact foldU_hd _ _ _
    cases hok : P.2
    · have hfin : foldU (unfM g k) g[k].inn p0 = P := by
        conv => lhs; rw [← List.take_append_drop i g[k].inn]
        rw [foldU_append, hP, foldU_stay _ _ hok]
      rw [hok] at g8
      rw [hfin, vE, cE_eq, hPh, hok]
      by_cases hlt : i < g[k].inn.length
      · simp only [↓rA, rB, Nat.reduceAdd, Nat.reduceEqDiff, tbO60, gb, gr, g4, g6, g7, g8, g9, hn, Int.ofNat_lt, hlt, List.length_map]
        exact ⟨_, [], [], hle _ _ _, List.nil_sublist _, List.nil_sublist _, rfl, rfl, rfl⟩
      · simp only [↓rA, rB, Nat.reduceAdd, Nat.reduceEqDiff, tbO60, gb, gr, g4, g6, g7, g8, g9, hn, Int.ofNat_lt, hlt, List.length_map]
        exact ⟨_, [], [], hle _ _ _, List.nil_sublist _, List.nil_sublist _, rfl, rfl, rfl⟩
    · by_cases hlt : i < g[k].inn.length
      case neg =>
        have hi' : i = g[k].inn.length := by omega
        have hfin : foldU (unfM g k) g[k].inn p0 = P := by rw [← hP, hi', List.take_of_length_le (Nat.le_refl _)]
        rw [hok] at g8
        rw [hfin, vE, cE_eq, hPh, hok]
        simp only [↓rA, rB, Nat.reduceAdd, Nat.reduceEqDiff, tbO60, gb, gr, g4, g6, g7, g8, g9, hn, Int.ofNat_lt, hlt, List.length_map]
        exact ⟨_, [], [], hle _ _ _, List.nil_sublist _, List.nil_sublist _, rfl, rfl, rfl⟩
      obtain ⟨m, hm, hmk, hml, hmu⟩ := hrec i hlt
      have hwi := wrap_succ (i := i) (N := g[k].inn.length) hlt (by omega)
      have hc := ih m hmk hml
      have hnext : foldU (unfM g k) (g[k].inn.take (i + 1)) p0 = (.mk p0.1.hd (P.1.args ++ [(unfM g (m + 1) (m : Int)).1]), (unfM g (m + 1) (m : Int)).2) := by
        rw [List.take_succ_eq_append_getElem hlt, foldU_snoc, hP, if_pos hok, hm, hmu, hPh]
      rw [hok] at g8
      generalize hu : unfM g (m + 1) (m : Int) = u at hc hnext
      simp only [vE, cE_eq] at hc
      simp only [↓rA, rB, Nat.reduceAdd, Nat.reduceEqDiff, tbO60, gb, g2, g6, g8, g9, hn, Int.ofNat_lt, hlt, List.length_map, getD_map _ _ _ hlt, hm]
      refine CallV_of _ hc.v ?_
      simp only [↓rA, rB, Nat.reduceEqDiff, tbO60, gb, gr]
      refine fun b10 h10 => ?_; replace h10 := newb h10; try simp only [Nb] at h10
      have hn2 := And.intro h10 hn
      have hlen : P.1.args.length ≤ i := by
        have := foldU_len (unfM g k) (g[k].inn.take i) p0
        rw [hP, hp0a, List.length_take] at this
        simp only [List.length_nil] at this
        omega
      have hc12 : (P.1.args.length + 1) * 160 ≤ 140737488355328 := by omega
      simp only [↓rA, rB, Nat.reduceAdd, Nat.reduceEqDiff, Nat.reduceLT, Nat.reduceLeDiff, Nat.reduceMul, tbO60, gb, gr, g7, hn2, List.length_map]
      intro y5
      refine takeRF_2 ?_
      simp only [↓rA, rB, Nat.reduceAdd, Nat.reduceEqDiff, tbO60, g7, g9, hn2, List.length_map, hc12]
      intro y6
      refine ⟨i + 1, by omega, [(b7, .c (cHu p0.1.hd nilS (.list (some y6) 12 (P.1.args.map cE ++ [cH u.1.hd (vEs u.1.args)])))), (b6, .c (cN g[k] g[k].expr.hd (vEs g[k].expr.args) (vints g[k].inn))), (b4, .c zE), (b2, .c [vNds g])], [⟨y6, 12, 34⟩], ?_, ?_, ?_⟩
      · exact List.Sublist.cons _ (List.Sublist.refl _)
      · exact List.Sublist.cons_cons _ (List.nil_sublist _)
      · simp only [rB, Nat.reduceEqDiff, g2, g4, g6, g7, hwi, hnext]
        refine ⟨by omega, y6, ?_, rfl⟩
        rw [← cE_eq]
        simp only [E.args, List.map_append, List.map_cons, List.map_nil]
end Go.Proofs.YtphkmlogjgeipaaGreatDoor

/- Lowering: the reference's raising gives what the program's gives (the plain law). -/
set_option maxRecDepth 100000
namespace Go.Lo
open Go.VL Go.Ar
theorem smin_sum (acc : List Nat) : ∀ (l : List Int) (s : Nat), smin (acc.map (min · 129)) l (min s 129) = min (s + (l.map fun t => acc.getD t.toNat 0).sum) 129
  | [], s => by simp [smin]
  | t :: r, s => by
    have e : (acc.map (min · 129)).getD t.toNat 0 = min (acc.getD t.toNat 0) 129 := by
      simp only [List.getD_eq_getElem?_getD, List.getElem?_map]
      cases acc[t.toNat]? <;> simp
    have h := smin_sum acc r (s + acc.getD t.toNat 0)
    simp only [smin, e, List.map_cons, List.sum_cons]
    rw [show min (min s 129 + min (acc.getD t.toNat 0) 129) 129 = min (s + acc.getD t.toNat 0) 129 by omega, h]
    congr 1
    omega
theorem szR_eq (L : List Nd) : szR L = (szs L).map (min · 129) := by
  have key : ∀ k, k ≤ L.length → szR (L.take k) = (szs (L.take k)).map (min · 129) := by
    intro k
    induction k with
    | zero => intro _; rfl
    | succ k ih =>
      intro hk
      rw [List.take_succ_eq_append_getElem (by omega), szR_snoc, szs_snoc, ih (by omega), List.map_append, List.map_cons, List.map_nil]
      have := smin_sum (szs (L.take k)) L[k].inn 1
      rw [show min 1 129 = 1 by decide] at this
      rw [this]
      rfl
  have := key L.length (Nat.le_refl _)
  rwa [List.take_of_length_le (Nat.le_refl _)] at this
theorem foldU_all {rec : Int → E × Bool} : ∀ {ks : List Int} {l : List E} (h : Hd) (a : List E), ks.map rec = l.map (fun x => (x, true)) → foldU rec ks (.mk h a, true) = (.mk h (a ++ l), true)
  | [], [], h, a, _ => by simp [foldU]
  | k :: ks, x :: l, h, a, e => by
    simp only [List.map_cons, List.cons.injEq] at e
    simp only [foldU, if_true, e.1, E.hd, E.args]
    rw [foldU_all h _ e.2]
    simp
  | [], _ :: _, _, _, e => by cases e
  | _ :: _, [], _, _, e => by cases e
end Go.Lo
namespace Go.Proofs.YtphkmlogjgeipaaGreatDoor
open Go.VL Go.Ar Go.Lo Go.Proofs.YtphkmlogjgeipaaGreatDoor
theorem own_raw {h : Hd} {l : List E} (hk5 : ¬ h.kind = 5) (hp : okHd h false = true) (hw : h = wantH h) (hl : (l.length : Int) = manyH h.kind) (ks : List Int) :
    ¬ ({ ownM h l with inn := ks } : Nd).kind = 4 ∧ rawM { ownM h l with inn := ks } l.length = (.mk h [], true) := by
  by_cases e1 : h.kind = 1
  · have l0 : l = [] := by
      rw [e1] at hl
      have : (l.length : Int) = 0 := hl
      exact List.length_eq_zero_iff.1 (by omega)
    subst l0
    simp [rawM, ownM, e1]
  by_cases e2 : h.kind = 2
  · simp [okHd, e2] at hp
  by_cases e3 : h.kind = 3
  · have hw' : h = { hd0 3 with name := h.name } := by rw [hw]; simp [wantH, e3]
    have l0 : l.length = 0 := by
      rw [e3] at hl
      have : (l.length : Int) = 0 := hl
      omega
    refine ⟨by simp [ownM, e3], ?_⟩
    have : rawM { ownM h l with inn := ks } l.length = (.mk { hd0 3 with name := h.name } [], true) := by simp [rawM, ownM, e3, l0]
    rw [this, ← hw']
  by_cases e4 : h.kind = 4
  · have hw' : h = { hd0 4 with name := h.name } := by rw [hw]; simp [wantH, e4]
    have l1 : l.length = 1 := by
      rw [e4] at hl
      have : (l.length : Int) = 1 := hl
      omega
    refine ⟨by simp [ownM, e4], ?_⟩
    have : rawM { ownM h l with inn := ks } l.length = (.mk { hd0 4 with name := h.name } [], true) := by simp [rawM, ownM, e4, l1]
    rw [this, ← hw']
  by_cases e6 : h.kind = 6
  · have l1 : l.length = 1 := by
      rw [e6] at hl
      have : (l.length : Int) = 1 := hl
      omega
    have hw' : h = { hd0 6 with op := h.op } := by rw [hw]; simp [wantH, e6]
    refine ⟨by simp [ownM, e6], ?_⟩
    have : rawM { ownM h l with inn := ks } l.length = (.mk { hd0 6 with op := h.op } [], true) := by simp [rawM, ownM, e6, l1]
    rw [this, ← hw']
  by_cases e7 : h.kind = 7
  · have l2 : l.length = 2 := by
      rw [e7] at hl
      have : (l.length : Int) = 2 := hl
      omega
    have hop : ¬ h.op = sDefault := by
      intro e
      have hm : memS binL h.op = true := by simpa [okHd, e7] using hp
      rw [e] at hm
      revert hm
      decide +kernel
    have hw' : h = { hd0 7 with op := h.op } := by rw [hw]; simp [wantH, e7]
    refine ⟨by simp [ownM, e7], ?_⟩
    have : rawM { ownM h l with inn := ks } l.length = (.mk { hd0 7 with op := h.op } [], true) := by simp [rawM, ownM, e7, l2, hop]
    rw [this, ← hw']
  by_cases e8 : h.kind = 8
  · have l3 : l.length = 3 := by
      rw [e8] at hl
      have : (l.length : Int) = 3 := hl
      omega
    have hw' : h = hd0 8 := by rw [hw]; simp [wantH, e8]
    refine ⟨by simp [ownM, e8], ?_⟩
    have : rawM { ownM h l with inn := ks } l.length = (.mk (hd0 8) [], true) := by simp [rawM, ownM, e8, l3]
    rw [this, ← hw']
  have e9 : h.kind = 9 := by simpa [okHd, e1, e2, e3, e4, hk5, e6, e7, e8] using hp
  have l2 : l.length = 2 := by
    rw [e9] at hl
    have : (l.length : Int) = 2 := hl
    omega
  have hw' : h = hd0 9 := by rw [hw]; simp [wantH, e9]
  refine ⟨by simp [ownM, e9], ?_⟩
  have : rawM { ownM h l with inn := ks } l.length = (.mk (hd0 9) [], true) := by simp [rawM, ownM, e9, l2, show ¬ sDefault = sIf by decide]
  rw [this, ← hw']
/-- An expression that is lowered is unfolded again at its place. -/
def BackU (g : List Nd) (x : E) : Prop := ∀ L, WF L → L.Nodup → (lowE L x).1 <+: g → ∀ f : Nat, (lowE L x).2 < f → unfM g f ((lowE L x).2 : Int) = (x, true)
theorem lowEs_unf {g : List Nd} : ∀ (l : List E), (∀ x ∈ l, Agg2 x) → (∀ x ∈ l, BackU g x) → ∀ L, WF L → L.Nodup → (lowEs L l).1 <+: g → ∀ f : Nat, (∀ t ∈ (lowEs L l).2, t < (f : Int)) → (lowEs L l).2.map (unfM g f) = l.map fun x => (x, true)
  | [], _, _, L, _, _, _, f, _ => rfl
  | x :: r, ha, hb, L, hw, hn, hp, f, hf => by
    rw [lowEs] at hp hf ⊢
    have h1 := low_ok x (ha x List.mem_cons_self) L hw hn
    have hp1 : (lowE L x).1 <+: g := (lowEs_pre r _ fun y _ => lowE_pre y).trans hp
    simp only [List.map_cons]
    have hfx := hf _ List.mem_cons_self
    rw [hb x List.mem_cons_self L hw hn hp1 f (by omega), lowEs_unf r (fun y hy => ha y (List.mem_cons_of_mem _ hy)) (fun y hy => hb y (List.mem_cons_of_mem _ hy)) (lowE L x).1 h1.wf h1.nd hp f fun t ht => hf t (List.mem_cons_of_mem _ ht)]
theorem over_unf {g : List Nd} {h : Hd} {a c : E} (hw : h = wantH h) (e : h.kind = 5) (L : List Nd) (hp : (overM L h a c).1 <+: g) (f : Nat) (hf : 0 < f) : unfM g f ((overM L h a c).2 : Int) = (.mk h [a, c], true) := by
  simp only [overM] at hp ⊢
  generalize hn1 : ({ nd0 1 with table := h.table } : Nd) = n1 at hp ⊢
  generalize hL1 : putM L n1 = p1 at hp ⊢
  generalize hn2 : ({ nd0 2 with expr := c, inn := [(p1.2 : Int)] } : Nd) = n2 at hp ⊢
  generalize hL2 : putM p1.1 n2 = p2 at hp ⊢
  generalize hn3 : ({ nd0 3 with expr := a, inn := [(p2.2 : Int)] } : Nd) = n3 at hp ⊢
  generalize hL3 : putM p2.1 n3 = p3 at hp ⊢
  generalize hn4 : ({ nd0 4 with op := h.op, param := h.param, wk := h.wk, ws := h.ws, inn := [(p3.2 : Int)] } : Nd) = n4 at hp ⊢
  have q1 : p1.1 <+: p2.1 := hL2 ▸ putM_pre _ _
  have q2 : p2.1 <+: p3.1 := hL3 ▸ putM_pre _ _
  have q3 : p3.1 <+: (putM p3.1 n4).1 := putM_pre _ _
  have at1 : atN g (p1.2 : Int) = n1 := by
    obtain ⟨k, ke⟩ := putM_get L n1
    rw [hL1] at k
    obtain ⟨k', ke'⟩ := pre_get ((q1.trans q2).trans (q3.trans hp)) k
    rw [atN_get k' rfl, ke']
    simp only [hL1] at ke
    exact ke
  have at2 : atN g (p2.2 : Int) = n2 := by
    obtain ⟨k, ke⟩ := putM_get p1.1 n2
    rw [hL2] at k
    obtain ⟨k', ke'⟩ := pre_get (q2.trans (q3.trans hp)) k
    rw [atN_get k' rfl, ke']
    simp only [hL2] at ke
    exact ke
  have at3 : atN g (p3.2 : Int) = n3 := by
    obtain ⟨k, ke⟩ := putM_get p2.1 n3
    rw [hL3] at k
    obtain ⟨k', ke'⟩ := pre_get (q3.trans hp) k
    rw [atN_get k' rfl, ke']
    simp only [hL3] at ke
    exact ke
  have at4 : atN g ((putM p3.1 n4).2 : Int) = n4 := by
    obtain ⟨k, ke⟩ := putM_get p3.1 n4
    obtain ⟨k', ke'⟩ := pre_get hp k
    rw [atN_get k' rfl, ke']
    exact ke
  have hh : h = ⟨5, h.op, es0, h.table, val0, [], h.param, h.wk, h.ws⟩ := by
    conv => lhs; rw [hw]
    simp [wantH, e]
  have i4 : in0 n4 = (p3.2 : Int) := by rw [← hn4]; rfl
  have i3 : in0 n3 = (p2.2 : Int) := by rw [← hn3]; rfl
  have i2 : in0 n2 = (p1.2 : Int) := by rw [← hn2]; rfl
  obtain ⟨f, rfl⟩ : ∃ m, f = m + 1 := ⟨f - 1, by omega⟩
  rw [unfM, at4, if_pos (by rw [← hn4])]
  unfold chainM
  rw [i4, at3, i3, at2, i2, at1]
  conv => rhs; rw [hh]
  rw [← hn4, ← hn3, ← hn2, ← hn1]
  simp
theorem backU_ok (g : List Nd) : ∀ x, properE x false = true → BackU g x := by
  intro x
  induction x using E.ind with
  | h hd l ih =>
  intro hp L hw hn hpre f hf
  obtain ⟨p1, p2, p3, p4, _⟩ := proper_parts hp
  by_cases e : hd.kind = 5
  · have l2 : l.length = 2 := by
      rw [e] at p3
      have : (l.length : Int) = 2 := p3
      omega
    match l, l2 with
    | [a, c], _ =>
      rw [lowE_agg _ _ _ _ _ e] at hpre hf ⊢
      exact over_unf p2 e L hpre f (by omega)
  · have hall : ∀ z ∈ l, properE z false = true := fun z hz => by have := p4 z hz; simpa [e] using this
    have hag : ∀ z ∈ l, Agg2 z := fun z hz => proper_agg2 z _ (hall z hz)
    have hlow := low_ok _ (proper_agg2 _ _ hp) L hw hn
    rw [lowE_op _ _ _ e] at hpre hf hlow ⊢
    have h1 := lowEs_low l L (fun z hz => low_ok z (hag z hz)) hw hn
    obtain ⟨o4, o5⟩ := own_raw e p1 p2 p3 (lowEs L l).2
    generalize hnn : ({ ownM hd l with inn := (lowEs L l).2 } : Nd) = nn at *
    have hinn : nn.inn = (lowEs L l).2 := by rw [← hnn]
    obtain ⟨k, ke⟩ := putM_get (lowEs L l).1 nn
    obtain ⟨k', ke'⟩ := pre_get hpre k
    have hat : atN g ((putM (lowEs L l).1 nn).2 : Int) = nn := by rw [atN_get k' rfl, ke', ke]
    have hlt := hlow.wf _ k
    rw [ke, hinn] at hlt
    obtain ⟨f, rfl⟩ : ∃ m, f = m + 1 := ⟨f - 1, by omega⟩
    rw [unfM, hat, if_neg o4, hinn, lowEs_ks, o5]
    have := foldU_all (rec := unfM g f) hd [] (lowEs_unf l hag (fun z hz => ih z hz (hall z hz)) L hw hn ((putM_pre _ _).trans hpre) f fun t ht => by have := hlt t ht; omega)
    rw [this]
    rfl
/-- What the reference's raising gives. -/
noncomputable def raiseRM (g : List Nd) : E × Int :=
  if g = [] ∨ earlierB g = false then (exp0, 3) else if 128 < (szR g).getD (g.length - 1) 0 then (exp0, 3)
  else if (unfM g g.length ((g.length - 1 : Nat) : Int)).2 = false then (exp0, 3)
  else if shapeC (unfM g g.length ((g.length - 1 : Nat) : Int)).1 = 0 ∧ g = graphC (unfM g g.length ((g.length - 1 : Nat) : Int)).1 then ((unfM g g.length ((g.length - 1 : Nat) : Int)).1, 0) else (exp0, 3)
theorem raiseRM_graph (x : E) (h : shapeC x = 0) : raiseRM (graphC x) = (x, 0) := by
  obtain ⟨p1, p2, p3⟩ := shape_parts h
  have hag := proper_agg2 x false p3
  have hg : graphC x = (lowE [] x).1 := by rw [graphC, if_pos h]
  have hlow := low_ok x hag [] (fun i hi => by cases hi) List.nodup_nil
  have hr := root_last x hag
  rw [← hg] at hlow hr
  have hne : ¬ graphC x = [] := by
    intro e
    rw [e] at hr
    simp at hr
  have hlast : (graphC x).length - 1 = (lowE [] x).2 := by omega
  have hsz : (szs (graphC x)).getD ((graphC x).length - 1) 0 = nsE x := by
    have := hlow.nse
    simp only [List.map_cons, List.map_nil, List.cons.injEq, and_true, Int.toNat_natCast] at this
    rw [hlast]; exact this
  have hns := nsE_le x hag
  have hszR : ¬ 128 < (szR (graphC x)).getD ((graphC x).length - 1) 0 := by
    rw [szR_eq]
    have e : ((szs (graphC x)).map (min · 129)).getD ((graphC x).length - 1) 0 = min ((szs (graphC x)).getD ((graphC x).length - 1) 0) 129 := by
      simp only [List.getD_eq_getElem?_getD, List.getElem?_map]
      cases (szs (graphC x))[(graphC x).length - 1]? <;> simp
    rw [e, hsz]
    omega
  have hu : unfM (graphC x) (graphC x).length (((graphC x).length - 1 : Nat) : Int) = (x, true) := by
    rw [hlast]
    exact backU_ok (graphC x) x p3 [] (fun i hi => by cases hi) List.nodup_nil (by rw [hg]; exact List.prefix_refl _) _ (by omega)
  unfold raiseRM
  rw [if_neg (fun hh => hh.elim hne fun hh => by rw [earlier_t hlow.wf] at hh; cases hh), if_neg hszR, hu, if_neg (show ¬ true = false by decide), if_pos ⟨h, rfl⟩]
theorem raise_eq (g : List Nd) (hsz : g.length ≤ 1048576) (hf : ∀ n ∈ g, FitN n) (hdp : ∀ n ∈ g, depthE n.expr ≤ 1048576) : raiseM g = raiseRM g := by
  by_cases h : (raiseM g).2 = 0
  · obtain ⟨h1, h2, _⟩ := raiseM_ok hsz hf hdp h
    have h3 := raiseRM_graph _ h1
    rw [← h2] at h3
    rw [h3]
    exact Prod.ext rfl h
  · have ha : raiseM g = (exp0, 3) := by
      have key : ∀ r, raiseM g = r → ¬ r.2 = 0 → r = (exp0, 3) := by
        intro r hr hh
        unfold raiseM at hr
        split at hr
        · exact hr.symm
        · split at hr
          · exact hr.symm
          · split at hr
            · subst hr; exact absurd rfl hh
            · exact hr.symm
      exact key _ rfl h
    rw [ha]
    have key : ∀ r, raiseRM g = r → r = (exp0, 3) := by
      intro r hr
      unfold raiseRM at hr
      split at hr
      · exact hr.symm
      · split at hr
        · exact hr.symm
        · split at hr
          · exact hr.symm
          · split at hr
            · rename_i hq
              have h3 := raise_graph _ hq.1
              rw [← hq.2] at h3
              rw [h3] at h
              exact absurd rfl h
            · exact hr.symm
    exact (key _ rfl).symm
end Go.Proofs.YtphkmlogjgeipaaGreatDoor

/- Contracts of the reference's lowering, part j: Raise and Check (seat of LowerMatchesRaise). -/
set_option linter.unusedSimpArgs false
set_option maxRecDepth 100000
namespace Go.Proofs.YtphkmlogjgeipaaGreatDoor
open Go.VL Go.Ar Go.Lo Go.Proofs.YtphkmlogjgeipaaGreatDoor
def Gd (d : Nat) (x : E) : Prop := Fit x ∧ depthE x ≤ d
theorem Gd.mono {d d' : Nat} {x : E} (h : Gd d x) (hd : d ≤ d') : Gd d' x := ⟨h.1, Nat.le_trans h.2 hd⟩
theorem gd_exp0 (d : Nat) (h : 1 ≤ d) : Gd d exp0 := ⟨fit0, by rw [depthE_mk]; simp only [depthEs]; omega⟩
theorem depthEs_leq {d : Nat} : ∀ {l : List E}, (∀ x ∈ l, depthE x ≤ d) → depthEs l ≤ d
  | [], _ => Nat.zero_le _
  | x :: r, h => by
    simp only [depthEs]
    have h1 := h x List.mem_cons_self
    have h2 := depthEs_leq (l := r) fun y hy => h y (List.mem_cons_of_mem _ hy)
    omega
theorem foldU_gd {rec : Int → E × Bool} {d : Nat} : ∀ (l : List Int) (p : E × Bool), (∀ t ∈ l, Gd d (rec t).1) → (∀ x ∈ p.1.args, Gd d x) → ∀ x ∈ (foldU rec l p).1.args, Gd d x
  | [], p, _, h => h
  | t :: r, p, ht, h => by
    simp only [foldU]
    split
    · refine foldU_gd r _ (fun u hu => ht u (List.mem_cons_of_mem _ hu)) fun x hx => ?_
      simp only [E.args] at hx
      rcases List.mem_append.1 hx with hx | hx
      · exact h x hx
      · obtain rfl := List.mem_singleton.1 hx
        exact ht t List.mem_cons_self
    · exact h
theorem unfM_gd {g : List Nd} {D : Nat} (hD : 1 ≤ D) (hw : WF g) (hf : ∀ n ∈ g, Fit n.expr ∧ depthE n.expr ≤ D ∧ n.inn.length ≤ 1048576) : ∀ (f : Nat) (k : Nat), k < g.length → Gd (D + f + 1) (unfM g f k).1 := by
  have hat : ∀ i : Int, Gd D (atN g i).expr := fun i => by
    by_cases h : i.toNat < g.length
    · have e : atN g i = g[i.toNat] := by
        unfold atN
        rw [List.getD_eq_getElem?_getD, List.getElem?_eq_getElem h]; rfl
      rw [e]
      have := hf _ (List.getElem_mem h)
      exact ⟨this.1, this.2.1⟩
    · have e : atN g i = nd0 0 := by
        unfold atN
        rw [List.getD_eq_getElem?_getD, List.getElem?_eq_none (by omega)]; rfl
      rw [e]
      exact gd_exp0 D hD
  intro f
  induction f with
  | zero => intro k _; exact gd_exp0 _ (by omega)
  | succ f ih =>
    intro k hk
    have hak : atN g (k : Int) = g[k] := atN_get hk rfl
    obtain ⟨n1, n2, n3⟩ := hf _ (List.getElem_mem hk)
    rw [unfM, hak]
    split
    · unfold chainM
      split
      · split
        · split
          · have h1 := hat (in0 g[k])
            have h2 := hat (in0 (atN g (in0 g[k])))
            refine ⟨.mk _ _ (by simp [big]) (by simp [big]) fun x hx => ?_, ?_⟩
            · simp only [List.mem_cons, List.not_mem_nil, or_false] at hx
              rcases hx with rfl | rfl
              · exact h1.1
              · exact h2.1
            · rw [depthE_mk]
              have := depthEs_leq (d := D) (l := [(atN g (in0 g[k])).expr, (atN g (in0 (atN g (in0 g[k])))).expr]) fun x hx => by
                simp only [List.mem_cons, List.not_mem_nil, or_false] at hx
                rcases hx with rfl | rfl
                · exact h1.2
                · exact h2.2
              omega
          · exact gd_exp0 _ (by omega)
        · exact gd_exp0 _ (by omega)
      · exact gd_exp0 _ (by omega)
    · by_cases e5 : g[k].kind = 5
      · have hr : rawM g[k] g[k].inn.length = (g[k].expr, decide (g[k].inn.length = 0)) := by rw [rawM, if_pos e5]
        rw [hr]
        have : foldU (unfM g f) g[k].inn (g[k].expr, decide (g[k].inn.length = 0)) = (g[k].expr, decide (g[k].inn.length = 0)) := by
          by_cases l0 : g[k].inn.length = 0
          · rw [List.length_eq_zero_iff.1 l0]; rfl
          · exact foldU_stay _ _ (decide_eq_false l0)
        rw [this]
        exact ⟨n1, by simp only; omega⟩
      · generalize hp0 : rawM g[k] g[k].inn.length = p0
        have hp0a : p0.1.args = [] := by
          rw [← hp0]
          unfold rawM
          rw [if_neg e5]
          repeat' split
          all_goals rfl
        have hp0u : p0.1.hd.unit = [] := by
          rw [← hp0]
          unfold rawM
          rw [if_neg e5]
          repeat' split
          all_goals rfl
        have hall := foldU_gd (rec := unfM g f) (d := D + f + 1) g[k].inn p0 (fun t ht => by
          obtain ⟨t0, t1⟩ := hw k hk t ht
          obtain ⟨u, rfl⟩ : ∃ u : Nat, t = (u : Int) := ⟨t.toNat, by omega⟩
          exact ih u (by omega)) (fun x hx => by rw [hp0a] at hx; cases hx)
        have hlen := foldU_len (unfM g f) g[k].inn p0
        have hhd := foldU_hd (unfM g f) g[k].inn p0
        rw [hp0a] at hlen
        generalize foldU (unfM g f) g[k].inn p0 = P at *
        obtain ⟨⟨h, l⟩, b⟩ := P
        have hh : h = p0.1.hd := hhd
        have hl' : l.length ≤ 0 + g[k].inn.length := hlen
        have hall' : ∀ x ∈ l, Gd (D + f + 1) x := hall
        refine ⟨.mk _ _ ?_ ?_ fun x hx => (hall' x hx).1, ?_⟩
        · rw [hh, hp0u]; simp [big]
        · unfold big; omega
        · show depthE (.mk h l) ≤ _
          rw [depthE_mk]
          have := depthEs_leq fun x hx => (hall' x hx).2
          omega
set_option linter.defProp false in
def tbOG0 := (aI (aI (aI (aI (aI (aI (aI Ty.sz3 Ty.by3) (aI Ty.ag3 Ty.zr3)) (aI (aI Ty.un3 Ty.sz4) (aI Ty.by4 Ty.ag4))) (aI (aI (aI Ty.zr4 Ty.un4) (aI Ty.sz9 Ty.by9)) (aI (aI Ty.ag9 Ty.zr9) (aI Ty.un9 Ty.sz22)))) (aI (aI (aI (aI Ty.by22 Ty.ag22) (aI Ty.zr22 Ty.un22)) (aI (aI Ty.sz24 Ty.by24) (aI Ty.ag24 Ty.zr24))) (aI (aI (aI Ty.fl24_0 Ty.pl24_0) (aI Ty.sz28 Ty.by28)) (aI (aI Ty.ag28 Ty.zr28) (aI Ty.fl28_0 Ty.pl28_0))))) (aI (aI (aI (aI (aI Ty.fl28_1 Ty.pl28_1) (aI Ty.fl28_2 Ty.pl28_2)) (aI (aI Ty.sz29 Ty.by29) (aI Ty.ag29 Ty.zr29))) (aI (aI (aI Ty.un29 Ty.sz31) (aI Ty.by31 Ty.ag31)) (aI (aI Ty.zr31 Ty.fl31_0) (aI Ty.pl31_0 Ty.fl31_1)))) (aI (aI (aI (aI Ty.pl31_1 Ty.sz32) (aI Ty.by32 Ty.ag32)) (aI (aI Ty.zr32 Ty.un32) (aI Ty.sz34 Ty.by34))) (aI (aI (aI Ty.ag34 Ty.zr34) (aI Ty.fl34_0 Ty.pl34_0)) (aI (aI Ty.fl34_1 Ty.pl34_1) (aI Ty.fl34_2 (aI Ty.pl34_2 Ty.fl34_3))))))) (aI (aI (aI (aI (aI (aI Ty.pl34_3 Ty.fl34_4) (aI Ty.pl34_4 Ty.fl34_5)) (aI (aI Ty.pl34_5 Ty.fl34_6) (aI Ty.pl34_6 Ty.fl34_7))) (aI (aI (aI Ty.pl34_7 Ty.fl34_8) (aI Ty.pl34_8 Ty.sz35)) (aI (aI Ty.by35 Ty.ag35) (aI Ty.zr35 Ty.un35)))) (aI (aI (aI (aI Ty.sz42 Ty.by42) (aI Ty.ag42 Ty.sz45)) (aI (aI Ty.by45 Ty.ag45) (aI Ty.zr45 Ty.un45))) (aI (aI (aI Ty.sz47 Ty.by47) (aI Ty.ag47 Ty.zr47)) (aI (aI Ty.fl47_0 Ty.pl47_0) (aI Ty.fl47_1 Ty.pl47_1))))) (aI (aI (aI (aI (aI Ty.fl47_2 Ty.pl47_2) (aI Ty.fl47_3 Ty.pl47_3)) (aI (aI Ty.fl47_4 Ty.pl47_4) (aI Ty.fl47_5 Ty.pl47_5))) (aI (aI (aI Ty.fl47_6 Ty.pl47_6) (aI Ty.fl47_7 Ty.pl47_7)) (aI (aI Ty.fl47_8 Ty.pl47_8) (aI Ty.sz64 Ty.by64)))) (aI (aI (aI (aI Ty.ag64 Ty.sz103) (aI Ty.by103 Ty.ag103)) (aI (aI Ty.zr103 Ty.fl103_0) (aI Ty.pl103_0 Ty.fl103_1))) (aI (aI (aI Ty.pl103_1 Ty.eq28) (aI Ty.eq31 Ty.eq103)) (aI (aI Ty.cb21 Ty.cb22) (aI Ty.cb23 (aI Ty.cb24 Ty.cb25))))))))
theorem raiseRR_ok (g : List Nd) (hsz : g.length ≤ 1048576) (hf : ∀ n ∈ g, FitN n) (hdp : ∀ n ∈ g, depthE n.expr ≤ 1048576) (hin : ∀ n ∈ g, n.inn.length ≤ 1048576) : OkP Tryz.prog 7 [vG g] (.tup [vE (raiseRM g).1, vint (raiseRM g).2]) := by
  have bad : raiseRM g = (exp0, 3) → ∀ (X : List (Nat × B)) (Y : List Row), ∃ v bs' rs', Le (.tup [.agg zE, vint 3]) v ∧ bs'.Sublist X ∧ rs'.Sublist Y ∧ v = .tup [vE (raiseRM g).1, vint (raiseRM g).2] ∧ bs' = [] ∧ rs' = [] := fun h X Y =>
    ⟨_, [], [], leTup (.cons (leE (h := hd0 0) (l := []) (Le.nil 2) (Le.nil 12)) (.cons (Le.refl _) .nil)), List.nil_sublist _, List.nil_sublist _, by rw [h], rfl, rfl⟩
  refine Ok.of_ex Ty.mixed Tryz.func7 rfl (by simp [Tryz.ntmps7]) (by kernel_rfl) fun F w0 I0 => ?_
  simp only [↓rA, rB]
  refine fun b1 h1 => ?_; replace h1 := newb h1; try simp only [Nb] at h1
  simp only [↓rA, rB, tbOG0]
  refine fun b2 h2 => ?_; replace h2 := newb h2; try simp only [Nb] at h2
  by_cases e0 : g = []
  · have hw : IntKind.i64.wrap (((g.length : Nat) : Int) - 1) = -1 := by rw [e0]; decide
    simp only [↓rA, rB, Int.reduceLT, Nat.reduceAdd, Nat.reduceEqDiff, tbOG0, Tryz.results7, h2, List.length_map, hw]
    exact bad (by rw [raiseRM, if_pos (.inl e0)]) _ _
  have hpos : 0 < g.length := List.length_pos_iff.2 e0
  have hw : IntKind.i64.wrap (((g.length : Nat) : Int) - 1) = ((g.length - 1 : Nat) : Int) := by
    rw [wrap_id (by omega) (by omega)]; omega
  have hne : ¬ (((g.length - 1 : Nat) : Int) < 0) := by omega
  simp only [↓rA, rB, Nat.reduceAdd, Nat.reduceEqDiff, tbOG0, h2, List.length_map, hw, hne]
  refine OkF_of _ (earlier_ok g hsz hin) ?_
  cases e1 : earlierB g
  · simp only [↓rA, rB, Nat.reduceAdd, Nat.reduceEqDiff, tbOG0, Tryz.results7]
    exact bad (by rw [raiseRM, if_pos (.inr e1)]) _ _
  have hwf := earlier_iff.1 e1
  have hx := unfM_gd (D := 1048576) (by decide) hwf (fun n hn => ⟨(hf n hn).1, hdp n hn, hin n hn⟩) g.length (g.length - 1) (by omega)
  have hun := unfold_ok g hwf hsz hin (g.length - 1) (by omega)
  rw [show g.length - 1 + 1 = g.length by omega] at hun
  have hR : raiseRM g = if 128 < (szR g).getD (g.length - 1) 0 then (exp0, 3)
    else if (unfM g g.length ((g.length - 1 : Nat) : Int)).2 = false then (exp0, 3)
    else if shapeC (unfM g g.length ((g.length - 1 : Nat) : Int)).1 = 0 ∧ g = graphC (unfM g g.length ((g.length - 1 : Nat) : Int)).1 then ((unfM g g.length ((g.length - 1 : Nat) : Int)).1, 0) else (exp0, 3) := by
    rw [raiseRM, if_neg (fun h => h.elim e0 fun h => by rw [e1] at h; cases h)]
  have hlenR : (szR g).length = g.length := by rw [szR_eq, List.length_map, szs_len]
  have hil : g.length - 1 < (ints (szR g)).length := by rw [List.length_map, hlenR]; omega
  have hil2 : g.length - 1 < (szR g).length := by rw [hlenR]; omega
  have hgi : (ints (szR g))[g.length - 1] = (((szR g).getD (g.length - 1) 0 : Nat) : Int) := by
    rw [List.getElem_map, List.getD_eq_getElem?_getD, List.getElem?_eq_getElem hil2]; rfl
  simp only [↓rA, rB, Nat.reduceEqDiff, tbOG0, h2]
  refine OkF_of _ (sizesR_ok g hwf hsz hin) ?_
  have hl1 : g.length - 1 < g.length := by omega
  by_cases e2 : 128 < (szR g).getD (g.length - 1) 0
  · have e2' : (128 : Int) < (((szR g).getD (g.length - 1) 0 : Nat) : Int) := by omega
    simp only [↓rA, rB, Nat.reduceAdd, Nat.reduceEqDiff, tbOG0, Tryz.results7, List.length_map, hlenR, Int.ofNat_lt, hl1, getD_map _ _ _ hil, hgi, e2']
    exact bad (by rw [hR, if_pos e2]) _ _
  have e2' : ¬ (128 : Int) < (((szR g).getD (g.length - 1) 0 : Nat) : Int) := by omega
  rw [if_neg e2] at hR
  simp only [↓rA, rB, Nat.reduceEqDiff, tbOG0, h2, List.length_map, hlenR, Int.ofNat_lt, hl1, getD_map _ _ _ hil, hgi, e2']
  refine OkF_of _ hun ?_
  generalize unfM g g.length ((g.length - 1 : Nat) : Int) = u at *
  obtain ⟨y, b⟩ := u
  simp only at hx hR ⊢
  have hgr := graphR_ok y hx.1 (by have := hx.2; unfold big; omega)
  have hsame := sameG_ok g (graphC y) (by unfold big; omega) hf
  simp only [vE, cE_eq y] at hgr ⊢
  simp only [↓rA, rB, Nat.reduceEqDiff, tbOG0]
  refine fun b6 h6 => ?_; replace h6 := newb h6; try simp only [Nb] at h6
  cases b
  · simp only [↓rA, rB, Nat.reduceAdd, Nat.reduceEqDiff, tbOG0, Tryz.results7, h6]
    exact bad (by rw [hR, if_pos rfl]) _ _
  rw [if_neg (by decide)] at hR
  simp only [↓rA, rB, Nat.reduceAdd, Nat.reduceEqDiff, tbOG0]
  refine OkF_of _ hgr ?_
  simp only [↓rA, rB, Nat.reduceEqDiff, tbOG0]
  refine fun b8 h8 => ?_; replace h8 := newb h8; try simp only [Nb] at h8
  by_cases e3 : shapeC y = 0
  case neg =>
    simp only [↓rA, rB, Nat.reduceAdd, Nat.reduceEqDiff, tbOG0, Tryz.results7, h6, h8, e3]
    exact bad (by rw [hR, if_neg (fun h => e3 h.1)]) _ _
  simp only [↓rA, rB, Nat.reduceEqDiff, tbOG0, h2, h6, h8, e3]
  refine OkF_of _ hsame ?_
  by_cases e4 : g = graphC y
  case neg =>
    have d4 : decide (g = graphC y) = false := decide_eq_false e4
    simp only [↓rA, rB, Nat.reduceAdd, Nat.reduceEqDiff, tbOG0, Tryz.results7, h6, h8, d4]
    exact bad (by rw [hR, if_neg (fun h => e4 h.2)]) _ _
  have d4 : decide (g = graphC y) = true := decide_eq_true e4
  simp only [↓rA, rB, Nat.reduceAdd, Nat.reduceEqDiff, tbOG0, Tryz.results7, h6, h8, d4]
  rw [hR, if_pos ⟨e3, e4⟩, cE_eq]
  exact ret_done rfl
set_option linter.defProp false in
def tbOG1 := (aI (aI (aI (aI (aI (aI Ty.sz3 (aI Ty.by3 Ty.ag3)) (aI (aI Ty.zr3 Ty.un3) (aI Ty.sz9 Ty.by9))) (aI (aI Ty.ag9 (aI Ty.zr9 Ty.un9)) (aI (aI Ty.sz22 Ty.by22) (aI Ty.ag22 Ty.zr22)))) (aI (aI (aI Ty.un22 (aI Ty.sz24 Ty.by24)) (aI (aI Ty.ag24 Ty.zr24) (aI Ty.fl24_0 Ty.pl24_0))) (aI (aI (aI Ty.sz28 Ty.by28) (aI Ty.ag28 Ty.zr28)) (aI (aI Ty.fl28_0 Ty.pl28_0) (aI Ty.fl28_1 Ty.pl28_1))))) (aI (aI (aI (aI Ty.fl28_2 (aI Ty.pl28_2 Ty.sz29)) (aI (aI Ty.by29 Ty.ag29) (aI Ty.zr29 Ty.un29))) (aI (aI (aI Ty.sz31 Ty.by31) (aI Ty.ag31 Ty.zr31)) (aI (aI Ty.fl31_0 Ty.pl31_0) (aI Ty.fl31_1 Ty.pl31_1)))) (aI (aI (aI Ty.sz32 (aI Ty.by32 Ty.ag32)) (aI (aI Ty.zr32 Ty.un32) (aI Ty.sz34 Ty.by34))) (aI (aI (aI Ty.ag34 Ty.zr34) (aI Ty.fl34_0 Ty.pl34_0)) (aI (aI Ty.fl34_1 Ty.pl34_1) (aI Ty.fl34_2 Ty.pl34_2)))))) (aI (aI (aI (aI (aI Ty.fl34_3 (aI Ty.pl34_3 Ty.fl34_4)) (aI (aI Ty.pl34_4 Ty.fl34_5) (aI Ty.pl34_5 Ty.fl34_6))) (aI (aI Ty.pl34_6 (aI Ty.fl34_7 Ty.pl34_7)) (aI (aI Ty.fl34_8 Ty.pl34_8) (aI Ty.sz35 Ty.by35)))) (aI (aI (aI Ty.ag35 (aI Ty.zr35 Ty.un35)) (aI (aI Ty.sz36 Ty.by36) (aI Ty.ag36 Ty.sz45))) (aI (aI (aI Ty.by45 Ty.ag45) (aI Ty.zr45 Ty.un45)) (aI (aI Ty.sz47 Ty.by47) (aI Ty.ag47 Ty.zr47))))) (aI (aI (aI (aI Ty.fl47_0 (aI Ty.pl47_0 Ty.fl47_1)) (aI (aI Ty.pl47_1 Ty.fl47_2) (aI Ty.pl47_2 Ty.fl47_3))) (aI (aI (aI Ty.pl47_3 Ty.fl47_4) (aI Ty.pl47_4 Ty.fl47_5)) (aI (aI Ty.pl47_5 Ty.fl47_6) (aI Ty.pl47_6 Ty.fl47_7)))) (aI (aI (aI Ty.pl47_7 (aI Ty.fl47_8 Ty.pl47_8)) (aI (aI Ty.sz103 Ty.by103) (aI Ty.ag103 Ty.zr103))) (aI (aI (aI Ty.fl103_0 Ty.pl103_0) (aI Ty.fl103_1 Ty.pl103_1)) (aI (aI Ty.eq28 Ty.eq31) (aI Ty.eq103 Ty.cb7)))))))
theorem checkRR_ok (g : List Nd) (hsz : g.length ≤ 1048576) (hf : ∀ n ∈ g, FitN n) (hdp : ∀ n ∈ g, depthE n.expr ≤ 1048576) (hin : ∀ n ∈ g, n.inn.length ≤ 1048576) : OkP Tryz.prog 10 [vG g] (vint (raiseRM g).2) := by
  have hr := raiseRR_ok g hsz hf hdp hin
  simp only [vE, cE_eq] at hr
  refine Ok.of_ex Ty.mixed Tryz.func10 rfl (by simp [Tryz.ntmps10]) (by kernel_rfl) fun F w0 I0 => ?_
  simp only [↓rA, rB]
  refine fun b1 h1 => ?_; replace h1 := newb h1; try simp only [Nb] at h1
  simp only [↓rA, rB, Nat.reduceEqDiff, tbOG1]
  refine OkF_of _ hr ?_
  simp only [↓rA, rB, Nat.reduceEqDiff, tbOG1]
  refine fun b3 h3 => ?_; replace h3 := newb h3; try simp only [Nb] at h3
  simp only [↓rA, rB, Nat.reduceAdd, Nat.reduceEqDiff, tbOG1, Tryz.results10]
  exact ret_done rfl
set_option linter.defProp false in
def tbOG2 := (aI (aI (aI (aI (aI (aI (aI Ty.sz3 Ty.by3) (aI Ty.ag3 Ty.zr3)) (aI (aI Ty.un3 Ty.sz4) (aI Ty.by4 Ty.ag4))) (aI (aI (aI Ty.zr4 Ty.un4) (aI Ty.sz9 Ty.by9)) (aI (aI Ty.ag9 Ty.zr9) (aI Ty.un9 Ty.sz22)))) (aI (aI (aI (aI Ty.by22 Ty.ag22) (aI Ty.zr22 Ty.un22)) (aI (aI Ty.sz24 Ty.by24) (aI Ty.ag24 Ty.zr24))) (aI (aI (aI Ty.fl24_0 Ty.pl24_0) (aI Ty.sz28 Ty.by28)) (aI (aI Ty.ag28 Ty.zr28) (aI Ty.fl28_0 Ty.pl28_0))))) (aI (aI (aI (aI (aI Ty.fl28_1 Ty.pl28_1) (aI Ty.fl28_2 Ty.pl28_2)) (aI (aI Ty.sz29 Ty.by29) (aI Ty.ag29 Ty.zr29))) (aI (aI (aI Ty.un29 Ty.sz31) (aI Ty.by31 Ty.ag31)) (aI (aI Ty.zr31 Ty.fl31_0) (aI Ty.pl31_0 Ty.fl31_1)))) (aI (aI (aI (aI Ty.pl31_1 Ty.sz32) (aI Ty.by32 Ty.ag32)) (aI (aI Ty.zr32 Ty.un32) (aI Ty.sz34 Ty.by34))) (aI (aI (aI Ty.ag34 Ty.zr34) (aI Ty.fl34_0 Ty.pl34_0)) (aI (aI Ty.fl34_1 Ty.pl34_1) (aI Ty.fl34_2 Ty.pl34_2)))))) (aI (aI (aI (aI (aI (aI Ty.fl34_3 Ty.pl34_3) (aI Ty.fl34_4 Ty.pl34_4)) (aI (aI Ty.fl34_5 Ty.pl34_5) (aI Ty.fl34_6 Ty.pl34_6))) (aI (aI (aI Ty.fl34_7 Ty.pl34_7) (aI Ty.fl34_8 Ty.pl34_8)) (aI (aI Ty.sz35 Ty.by35) (aI Ty.ag35 Ty.zr35)))) (aI (aI (aI (aI Ty.un35 Ty.sz36) (aI Ty.by36 Ty.ag36)) (aI (aI Ty.sz45 Ty.by45) (aI Ty.ag45 Ty.zr45))) (aI (aI (aI Ty.un45 Ty.sz47) (aI Ty.by47 Ty.ag47)) (aI (aI Ty.zr47 Ty.fl47_0) (aI Ty.pl47_0 Ty.fl47_1))))) (aI (aI (aI (aI (aI Ty.pl47_1 Ty.fl47_2) (aI Ty.pl47_2 Ty.fl47_3)) (aI (aI Ty.pl47_3 Ty.fl47_4) (aI Ty.pl47_4 Ty.fl47_5))) (aI (aI (aI Ty.pl47_5 Ty.fl47_6) (aI Ty.pl47_6 Ty.fl47_7)) (aI (aI Ty.pl47_7 Ty.fl47_8) (aI Ty.pl47_8 Ty.sz103)))) (aI (aI (aI (aI Ty.by103 Ty.ag103) (aI Ty.zr103 Ty.fl103_0)) (aI (aI Ty.pl103_0 Ty.fl103_1) (aI Ty.pl103_1 Ty.eq28))) (aI (aI (aI Ty.eq31 Ty.eq103) (aI Ty.cb4 Ty.cb5)) (aI (aI Ty.cb6 Ty.cb7) (aI Ty.cb8 (aI Ty.cb9 Ty.cb10))))))))
theorem matches_ok (g : List Nd) (hsz : g.length ≤ 1048576) (hf : ∀ n ∈ g, FitN n) (hdp : ∀ n ∈ g, depthE n.expr ≤ 1048576) (hin : ∀ n ∈ g, n.inn.length ≤ 1048576) : OkP Tryz.prog 3 [vG g] (vbool true) := by
  have he := example_ok
  have hgr := raise_ok g hsz hf hdp hin
  have hgc := check_ok g hsz hf hdp hin
  have hrr := raiseRR_ok g hsz hf hdp hin
  have hrc := checkRR_ok g hsz hf hdp hin
  have hsm := small_ok g (by unfold big; omega) hf
  have heq := raise_eq g hsz hf hdp
  have hfx : Fit (raiseM g).1 := by
    by_cases h : (raiseM g).2 = 0
    · exact (raiseM_ok hsz hf hdp h).2.2
    · have key : ∀ r, raiseM g = r → ¬ r.2 = 0 → r = (exp0, 3) := by
        intro r hr hh
        unfold raiseM at hr
        split at hr
        · exact hr.symm
        · split at hr
          · exact hr.symm
          · split at hr
            · subst hr; exact absurd rfl hh
            · exact hr.symm
      rw [key _ rfl h]
      exact fit0
  rw [← heq] at hrr hrc
  have hsame := sameExprR_ok (raiseM g).1 hfx (raiseM g).1
  rw [decide_eq_true rfl] at hsame
  generalize raiseM g = r at *
  obtain ⟨y, n⟩ := r
  simp only [vE, cE_eq] at hgr hrr hsame
  refine Ok.of_ex Ty.mixed Tryz.func3 rfl (by simp [Tryz.ntmps3]) (by kernel_rfl) fun F w0 I0 => ?_
  simp only [↓rA, rB]
  refine fun b1 h1 => ?_; replace h1 := newb h1; try simp only [Nb] at h1
  simp only [↓rA, rB, tbOG2]
  refine OkF_of _ he ?_
  simp only [↓rA, rB, Nat.reduceEqDiff, tbOG2]
  refine OkF_with [] _ (List.Perm.refl _) hsm ?_
  rintro v bs rs ⟨⟨b, rfl⟩, rfl, rfl⟩
  cases b
  · simp only [↓rA, rB, Nat.reduceEqDiff, Tryz.results3]
    exact ret_done rfl
  simp only [↓rA, rB, Nat.reduceEqDiff, tbOG2]
  refine OkF_of _ hgr ?_
  simp only [↓rA, rB, Nat.reduceEqDiff, tbOG2]
  refine fun b4 h4 => ?_; replace h4 := newb h4; try simp only [Nb] at h4
  simp only [↓rA, rB, Nat.reduceAdd, Nat.reduceEqDiff, tbOG2, h4]
  refine OkF_of _ hrr ?_
  simp only [↓rA, rB, Nat.reduceEqDiff, tbOG2]
  refine fun b6 h6 => ?_; replace h6 := newb h6; try simp only [Nb] at h6
  simp only [↓rA, rB, Nat.reduceAdd, Nat.reduceEqDiff, tbOG2, h6]
  refine CallV_of _ hsame.v ?_
  simp only [↓rA, rB, Nat.reduceEqDiff, tbOG2, h4, h6]
  refine CallV_of _ hgc.v ?_
  simp only [↓rA, rB, Nat.reduceEqDiff, tbOG2, h4, h6]
  refine CallV_of _ hrc.v ?_
  simp only [↓rA, rB, Nat.reduceEqDiff, Tryz.results3]
  exact ret_done rfl
theorem matches_in (g : List Nd) (hsz : g.length ≤ 1048576) (hg : ∀ n ∈ g, okNd n) : OkP Tryz.prog 3 [vG g] (vbool true) :=
  matches_ok g hsz (fun n hn => (hg n hn).1) (fun n hn => (hg n hn).2.1) fun n hn => (hg n hn).2.2
end Go.Proofs.YtphkmlogjgeipaaGreatDoor

/- Lowering: what the finals share. -/
set_option linter.unusedSimpArgs false
namespace Go.Proofs.YtphkmlogjgeipaaGreatDoor
open Go.VL Go.Ar Go.Lo Go.ChangeShapes Go.WideShapes Go.ChangeAt Go.RowKit

theorem own : ownKnob Tryz.prog.godebug = none := by kernel_rfl
theorem laidOut : laidOutB Tryz.prog = true := by kernel_rfl
abbrev tysE : List TypeId := [34, 3, 9, 28, 29, 103, 31, 32, 24, 22, 47, 45]
theorem goodE : goodS Tryz.prog tysE = true := by kernel_rfl

abbrev wE : Value := .agg #[.int .i64 0, .string ⟨#[]⟩, .string ⟨#[]⟩, .string ⟨#[]⟩, .int .i64 0, .int .i64 0, .string ⟨#[]⟩, .slice none 0 0, .int .i64 0, .int .i64 0, .int .i64 0, .slice none 0 0]
abbrev dE {H : Type} : DataW H := .agg [.lit (.int .i64 0), .lit (.string []), .lit (.string []), .lit (.string []), .agg [.lit (.int .i64 0), .lit (.int .i64 0), .lit (.string [])], .nil, .lit (.int .i64 0), .agg [.lit (.int .i64 0), .lit (.int .i64 0)], .nil]
abbrev wG : Value := .agg #[.slice none 0 0]
abbrev dG {H : Type} : DataW H := .agg [.nil]
noncomputable def laidWorld (os : Os) : World := World.laidAll Tryz.prog os laidL
theorem laid_met (os : Os) (args : Array Value) : laidMet Tryz.prog laidL ((laidWorld os).forCall (fun _ _ => 0) ⟨#[], args, []⟩).memory :=
  laidMet_laidAll args (by kernel_rfl) (by kernel_rfl)
end Go.Proofs.YtphkmlogjgeipaaGreatDoor

