/- Merged out of my texts N1 N2 N3 N4 N5 L6 N6 N7 O1 O2 OA OB OC OD OE O3. -/
import Derived.Test.YtphkmlogjgeipaaGreatDoorKb
import Derived.Test.YtphkmlogjgeipaaGreatDoorVH
import Derived.Test.YtphkmlogjgeipaaGreatDoorVJ
import Derived.Test.YtphkmlogjgeipaaGreatDoorRows
import Derived.ProofKit
import Derived.JoinedCond
import Derived.Shelf.Vars
import Derived.Test.YtphkmlogjgeipaaGreatDoorKa
set_option linter.unusedVariables false
/- Contracts of lowering, part s: the law's 'small', the comparison of nodes. -/
set_option linter.unusedSimpArgs false
set_option maxRecDepth 100000
-- @call 20
namespace Go.Proofs.YtphkmlogjgeipaaGreatDoor
open Go.VL Go.Ar Go.Lo Go.Proofs.YtphkmlogjgeipaaGreatDoor

set_option linter.defProp false in
def tbN10 := (aI (aI (aI (aI (aI (aI Ty.sz3 Ty.by3) (aI Ty.ag3 Ty.zr3)) (aI (aI Ty.un3 Ty.sz4) (aI Ty.by4 (aI Ty.ag4 Ty.zr4)))) (aI (aI (aI Ty.un4 Ty.sz9) (aI Ty.by9 (aI Ty.ag9 Ty.zr9))) (aI (aI Ty.un9 Ty.sz28) (aI Ty.by28 (aI Ty.ag28 Ty.zr28))))) (aI (aI (aI (aI Ty.fl28_0 Ty.pl28_0) (aI Ty.fl28_1 (aI Ty.pl28_1 Ty.fl28_2))) (aI (aI Ty.pl28_2 Ty.sz29) (aI Ty.by29 (aI Ty.ag29 Ty.zr29)))) (aI (aI (aI Ty.un29 Ty.sz31) (aI Ty.by31 (aI Ty.ag31 Ty.zr31))) (aI (aI Ty.fl31_0 Ty.pl31_0) (aI Ty.fl31_1 (aI Ty.pl31_1 Ty.sz32)))))) (aI (aI (aI (aI (aI Ty.by32 Ty.ag32) (aI Ty.zr32 Ty.un32)) (aI (aI Ty.sz34 Ty.by34) (aI Ty.ag34 (aI Ty.zr34 Ty.fl34_0)))) (aI (aI (aI Ty.pl34_0 Ty.fl34_1) (aI Ty.pl34_1 (aI Ty.fl34_2 Ty.pl34_2))) (aI (aI Ty.fl34_3 Ty.pl34_3) (aI Ty.fl34_4 (aI Ty.pl34_4 Ty.fl34_5))))) (aI (aI (aI (aI Ty.pl34_5 Ty.fl34_6) (aI Ty.pl34_6 (aI Ty.fl34_7 Ty.pl34_7))) (aI (aI Ty.fl34_8 Ty.pl34_8) (aI Ty.sz103 (aI Ty.by103 Ty.ag103)))) (aI (aI (aI Ty.zr103 Ty.fl103_0) (aI Ty.pl103_0 (aI Ty.fl103_1 Ty.pl103_1))) (aI (aI Ty.eq28 Ty.eq31) (aI Ty.eq103 (aI Ty.cb17 Ty.cb20)))))))
theorem sizeR_ok : ∀ x : E, Fit x → OkP Tryz.prog 17 [vE x] (vint (IntKind.i64.wrap (sizeE x))) := by
  intro x
  induction x using E.ind with
  | h hd l ih =>
    intro hf
    have hl := hf.len
    have ha := hf.args
    simp only [E.args, big] at hl ha
    rw [vE, cE_mk]
    refine Ok.of_ex Ty.mixed Tryz.func17 rfl (by simp [Tryz.ntmps17]) (by kernel_rfl) fun F w0 I0 => ?_
    simp only [↓rA, rB]
    refine fun b1 h1 => ?_; replace h1 := newb h1; try simp only [Nb] at h1
    simp only [↓rA, rB, Tryz.results17]
    refine EX_for Ty.mixed (by kernel_rfl) l.length (fun i S => S.boxes = [(b1, .c (cH hd (vEs l)))] ∧ S.rows = [] ∧ S.σ 1 = ptr b1 ∧ S.σ 3 = vint (IntKind.i64.wrap (1 + sizeEs (l.take i))) ∧ S.σ 4 = vint i) ⟨0, ?_⟩ (fun i S hi ⟨gb, gr, g1, g3, g4⟩ => ?_) (fun S ⟨gb, gr, g1, g3, g4⟩ => ?_)
    · simp only [rB, Nat.reduceEqDiff]
      exact congrArg (fun n => V.lit (.int .i64 n)) (by decide)
    · have hwi := wrap_succ (i := i) (N := l.length) hi (by omega)
      have hx := List.getElem_mem hi
      have hc := ih l[i] hx (ha _ hx)
      rw [vE, cE_eq] at hc
      simp only [↓rA, rB, Nat.reduceAdd, Nat.reduceEqDiff, tbN10, gb, g1, g3, g4, Int.ofNat_lt, hi, List.length_map, getD_map _ _ _ hi, cE_eq]
      refine OkF_of _ hc ?_
      simp only [↓rA, rB, Nat.reduceEqDiff, gr, g1, g4, hwi]
      refine ⟨0, rfl, ?_⟩
      rw [wrapAdd, List.take_succ_eq_append_getElem hi, sizeEs_append]
      exact congrArg (fun n => V.lit (.int .i64 (IntKind.i64.wrap n))) (by simp only [sizeEs]; omega)
    · simp only [↓rA, rB, Nat.reduceAdd, Nat.reduceEqDiff, tbN10, gb, gr, g1, g3, g4, Int.ofNat_lt, Nat.lt_irrefl, List.length_map]
      refine ret_done ?_
      rw [sizeE_mk, List.take_of_length_le (Nat.le_refl _)]
      exact congrArg (fun n => V.lit (.int .i64 (IntKind.i64.wrap n))) (by omega)
set_option linter.defProp false in
def tbN11 := (aI (aI (aI (aI (aI (aI Ty.sz3 (aI Ty.by3 Ty.ag3)) (aI (aI Ty.zr3 Ty.un3) (aI Ty.sz4 Ty.by4))) (aI (aI Ty.ag4 (aI Ty.zr4 Ty.un4)) (aI (aI Ty.sz9 Ty.by9) (aI Ty.ag9 Ty.zr9)))) (aI (aI (aI Ty.un9 (aI Ty.sz22 Ty.by22)) (aI (aI Ty.ag22 Ty.zr22) (aI Ty.un22 Ty.sz24))) (aI (aI (aI Ty.by24 Ty.ag24) (aI Ty.zr24 Ty.fl24_0)) (aI (aI Ty.pl24_0 Ty.sz28) (aI Ty.by28 Ty.ag28))))) (aI (aI (aI (aI Ty.zr28 (aI Ty.fl28_0 Ty.pl28_0)) (aI (aI Ty.fl28_1 Ty.pl28_1) (aI Ty.fl28_2 Ty.pl28_2))) (aI (aI Ty.sz29 (aI Ty.by29 Ty.ag29)) (aI (aI Ty.zr29 Ty.un29) (aI Ty.sz31 Ty.by31)))) (aI (aI (aI Ty.ag31 (aI Ty.zr31 Ty.fl31_0)) (aI (aI Ty.pl31_0 Ty.fl31_1) (aI Ty.pl31_1 Ty.sz32))) (aI (aI (aI Ty.by32 Ty.ag32) (aI Ty.zr32 Ty.un32)) (aI (aI Ty.sz34 Ty.by34) (aI Ty.ag34 Ty.zr34)))))) (aI (aI (aI (aI (aI Ty.fl34_0 (aI Ty.pl34_0 Ty.fl34_1)) (aI (aI Ty.pl34_1 Ty.fl34_2) (aI Ty.pl34_2 Ty.fl34_3))) (aI (aI Ty.pl34_3 (aI Ty.fl34_4 Ty.pl34_4)) (aI (aI Ty.fl34_5 Ty.pl34_5) (aI Ty.fl34_6 Ty.pl34_6)))) (aI (aI (aI Ty.fl34_7 (aI Ty.pl34_7 Ty.fl34_8)) (aI (aI Ty.pl34_8 Ty.sz45) (aI Ty.by45 Ty.ag45))) (aI (aI (aI Ty.zr45 Ty.un45) (aI Ty.sz47 Ty.by47)) (aI (aI Ty.ag47 Ty.zr47) (aI Ty.fl47_0 Ty.pl47_0))))) (aI (aI (aI (aI Ty.fl47_1 (aI Ty.pl47_1 Ty.fl47_2)) (aI (aI Ty.pl47_2 Ty.fl47_3) (aI Ty.pl47_3 Ty.fl47_4))) (aI (aI Ty.pl47_4 (aI Ty.fl47_5 Ty.pl47_5)) (aI (aI Ty.fl47_6 Ty.pl47_6) (aI Ty.fl47_7 Ty.pl47_7)))) (aI (aI (aI Ty.fl47_8 (aI Ty.pl47_8 Ty.sz103)) (aI (aI Ty.by103 Ty.ag103) (aI Ty.zr103 Ty.fl103_0))) (aI (aI (aI Ty.pl103_0 Ty.fl103_1) (aI Ty.pl103_1 Ty.eq28)) (aI (aI Ty.eq31 Ty.eq103) (aI Ty.cb17 Ty.cb20)))))))
theorem small_ok (g : List Nd) (hl : g.length ≤ big) (hf : ∀ n ∈ g, FitN n) : Ok Tryz.prog 5 [vG g] [] fun v bs rs => (∃ b : Bool, v = vbool b) ∧ bs = [] ∧ rs = [] := by
  unfold big at hl
  refine Ok.of_ex Ty.mixed Tryz.func5 rfl (by simp [Tryz.ntmps5]) (by kernel_rfl) fun F w0 I0 => ?_
  simp only [↓rA, rB]
  refine fun b1 h1 => ?_; replace h1 := newb h1; try simp only [Nb] at h1
  simp only [↓rA, rB, Tryz.results5]
  refine EX_for Ty.mixed (by kernel_rfl) g.length (fun i S => S.boxes = [(b1, .c [vNds g])] ∧ S.rows = [] ∧ S.σ 1 = ptr b1 ∧ S.σ 3 = vint i) ⟨0, ?_⟩ (fun i S hi ⟨gb, gr, g1, g3⟩ => ?_) (fun S ⟨gb, gr, g1, g3⟩ => ?_)
  · simp only [rB, Nat.reduceEqDiff]
    try exact rfl
  · have hwi := wrap_succ (i := i) (N := g.length) hi (by omega)
    have hfn := hf _ (List.getElem_mem hi)
    have hc := sizeR_ok g[i].expr hfn.1
    rw [vE, cE_eq] at hc
    by_cases c1 : (8 : Int) < (g[i].inn.length : Int)
    · simp only [↓rA, rB, Nat.reduceAdd, Nat.reduceEqDiff, tbN11, gb, gr, g1, g3, Int.ofNat_lt, hi, List.length_map, getD_map _ _ _ hi, cNd_eq, c1]
      exact ⟨_, [], [], Le.refl _, List.nil_sublist _, List.nil_sublist _, ⟨_, rfl⟩, rfl, rfl⟩
    simp only [↓rA, rB, Nat.reduceAdd, Nat.reduceEqDiff, Nat.reduceLeDiff, tbN11, gb, g1, g3, Int.ofNat_lt, hi, List.length_map, getD_map _ _ _ hi, cNd_eq, c1]
    refine OkF_of _ hc ?_
    by_cases c2 : (200 : Int) < IntKind.i64.wrap (sizeE g[i].expr)
    · simp only [↓rA, rB, Nat.reduceEqDiff, gr, c2]
      exact ⟨_, [], [], Le.refl _, List.nil_sublist _, List.nil_sublist _, ⟨_, rfl⟩, rfl, rfl⟩
    · simp only [↓rA, rB, Nat.reduceEqDiff, gr, g1, g3, c2, hwi]
      exact ⟨0, rfl⟩
  · simp only [↓rA, rB, Nat.reduceAdd, Nat.reduceEqDiff, tbN11, gb, gr, g1, g3, Int.ofNat_lt, Nat.lt_irrefl, List.length_map]
    exact ⟨_, [], [], Le.refl _, List.nil_sublist _, List.nil_sublist _, ⟨_, rfl⟩, rfl, rfl⟩
set_option linter.defProp false in
def tbN12 := (aI (aI (aI (aI (aI (aI Ty.sz3 (aI Ty.by3 Ty.ag3)) (aI (aI Ty.zr3 Ty.un3) (aI Ty.sz4 Ty.by4))) (aI (aI Ty.ag4 (aI Ty.zr4 Ty.un4)) (aI (aI Ty.sz9 Ty.by9) (aI Ty.ag9 Ty.zr9)))) (aI (aI (aI Ty.un9 (aI Ty.sz22 Ty.by22)) (aI (aI Ty.ag22 Ty.zr22) (aI Ty.un22 Ty.sz28))) (aI (aI Ty.by28 (aI Ty.ag28 Ty.zr28)) (aI (aI Ty.fl28_0 Ty.pl28_0) (aI Ty.fl28_1 Ty.pl28_1))))) (aI (aI (aI (aI Ty.fl28_2 (aI Ty.pl28_2 Ty.sz29)) (aI (aI Ty.by29 Ty.ag29) (aI Ty.zr29 Ty.un29))) (aI (aI Ty.sz31 (aI Ty.by31 Ty.ag31)) (aI (aI Ty.zr31 Ty.fl31_0) (aI Ty.pl31_0 Ty.fl31_1)))) (aI (aI (aI Ty.pl31_1 (aI Ty.sz32 Ty.by32)) (aI (aI Ty.ag32 Ty.zr32) (aI Ty.un32 Ty.sz34))) (aI (aI Ty.by34 (aI Ty.ag34 Ty.zr34)) (aI (aI Ty.fl34_0 Ty.pl34_0) (aI Ty.fl34_1 Ty.pl34_1)))))) (aI (aI (aI (aI (aI Ty.fl34_2 (aI Ty.pl34_2 Ty.fl34_3)) (aI (aI Ty.pl34_3 Ty.fl34_4) (aI Ty.pl34_4 Ty.fl34_5))) (aI (aI Ty.pl34_5 (aI Ty.fl34_6 Ty.pl34_6)) (aI (aI Ty.fl34_7 Ty.pl34_7) (aI Ty.fl34_8 Ty.pl34_8)))) (aI (aI (aI Ty.sz45 (aI Ty.by45 Ty.ag45)) (aI (aI Ty.zr45 Ty.un45) (aI Ty.sz47 Ty.by47))) (aI (aI Ty.ag47 (aI Ty.zr47 Ty.fl47_0)) (aI (aI Ty.pl47_0 Ty.fl47_1) (aI Ty.pl47_1 Ty.fl47_2))))) (aI (aI (aI (aI Ty.pl47_2 (aI Ty.fl47_3 Ty.pl47_3)) (aI (aI Ty.fl47_4 Ty.pl47_4) (aI Ty.fl47_5 Ty.pl47_5))) (aI (aI Ty.fl47_6 (aI Ty.pl47_6 Ty.fl47_7)) (aI (aI Ty.pl47_7 Ty.fl47_8) (aI Ty.pl47_8 Ty.sz67)))) (aI (aI (aI Ty.by67 (aI Ty.ag67 Ty.zr67)) (aI (aI Ty.sz103 Ty.by103) (aI Ty.ag103 Ty.zr103))) (aI (aI (aI Ty.fl103_0 Ty.pl103_0) (aI Ty.fl103_1 Ty.pl103_1)) (aI (aI Ty.eq28 Ty.eq31) (aI Ty.eq103 Ty.cb20)))))))
theorem eqNodes_ok (u v : List Nd) (hu : u.length ≤ big) (hf : ∀ n ∈ u, FitN n) : OkP Tryz.prog 19 [vNds u, vNds v, fnN] (vbool (decide (u = v))) := by
  have fb : ∀ {a b : Bool}, a = b → V.lit (.bool a) = vbool b := fun h => by rw [h]
  unfold big at hu
  refine Ok.of_ex Ty.mixed Tryz.func19 rfl (by simp [Tryz.ntmps19]) (by kernel_rfl) fun F w0 I0 => ?_
  by_cases hl : ¬ u.length = v.length
  · have hl' : ¬ (u.length : Int) = v.length := by omega
    simp only [↓rA, rB, Nat.reduceEqDiff, reduceCtorEq, tbN12, Tryz.results19, List.length_map, hl']
    exact ret_done (fb (decide_eq_false fun e => hl (by rw [e])).symm)
  have hl' : (u.length : Int) = v.length := by omega
  have hl : u.length = v.length := by omega
  simp only [↓rA, rB, Nat.reduceEqDiff, reduceCtorEq, tbN12, Tryz.results19, List.length_map, hl']
  refine EX_for Ty.mixed (by kernel_rfl) v.length (fun i S => u.take i = v.take i ∧ S.boxes = [] ∧ S.rows = [] ∧ S.σ 1 = vNds v ∧ S.σ 2 = fnN ∧ S.σ 15 = vNds u ∧ S.σ 16 = vint v.length ∧ S.σ 17 = vint i) ⟨0, ?_⟩ (fun i S hi ⟨hq, gb, gr, g1, g2, g15, g16, g17⟩ => ?_) (fun S ⟨hq, gb, gr, g1, g2, g15, g16, g17⟩ => ?_)
  · simp only [rB, Nat.reduceEqDiff]
    try exact rfl
  · have hwi := wrap_succ (i := i) (N := v.length) hi (by omega)
    have hiu : i < u.length := by omega
    have hc := sameNode_ok u[i] v[i] (hf _ (List.getElem_mem hiu))
    simp only [cNd_eq] at hc
    simp only [↓rA, rB, Nat.reduceAdd, Nat.reduceEqDiff, tbN12, gb, gr, g15, g16, g17, hl', Int.ofNat_lt, hi, List.length_map, getD_map _ _ _ hiu, cNd_eq]
    refine fun b8 h8 => ?_; replace h8 := newb h8; try simp only [Nb] at h8
    simp only [↓rA, rB, Nat.reduceAdd, Nat.reduceEqDiff, tbN12, gb, gr, g1, Int.ofNat_lt, hi, List.length_map, getD_map _ _ _ hi, getD_map _ _ _ hiu, cNd_eq]
    refine fun b9 h9 => ?_; replace h9 := newb h9; try simp only [Nb] at h9
    simp only [↓rA, rB, Nat.reduceAdd, Nat.reduceEqDiff, tbN12, g2, h9]
    refine OkF_of _ hc ?_
    by_cases e : u[i] = v[i]
    · simp only [↓rA, rB, Nat.reduceEqDiff, gr, g1, g2, g15, g16, g17, e, hwi]
      exact ⟨2, by rw [List.take_succ_eq_append_getElem hi, List.take_succ_eq_append_getElem hiu, hq, e], rfl⟩
    · simp only [↓rA, rB, gr, e]
      refine ret_done (fb (decide_eq_false fun e' => e ?_).symm)
      subst e'
      rfl
  · simp only [↓rA, rB, gb, gr, g16, g17, Int.ofNat_lt, Nat.lt_irrefl]
    rw [List.take_of_length_le (Nat.le_refl _), List.take_of_length_le (by omega)] at hq
    exact ret_done (fb (decide_eq_true hq).symm)
end Go.Proofs.YtphkmlogjgeipaaGreatDoor

/- Contracts of lowering, part t: one node is raised (lower.node). Printed by mkN2.py. -/
set_option linter.unusedSimpArgs false
set_option maxRecDepth 100000
namespace Go.Lo
open Go.VL Go.Ar
def atN (g : List Nd) (t : Int) : Nd := g.getD t.toNat (nd0 0)
def in0 (n : Nd) : Int := n.inn.headD 0
/-- One node with the operands al, raised: the expression, and whether it may stand. -/
def nodeM (g : List Nd) (n : Nd) (al : List E) : E × Bool :=
  if n.kind = 5 then (n.expr, decide (al.length = 0))
  else if n.kind = 6 then (.mk { hd0 3 with name := n.name } al, true)
  else if n.kind = 7 then (.mk { hd0 4 with name := n.name } al, true)
  else if n.kind = 4 then
    if n.inn.length = 1 ∧ (atN g (in0 n)).kind = 3 then
      if (atN g (in0 n)).inn.length = 1 ∧ (atN g (in0 (atN g (in0 n)))).kind = 2 then
        if (atN g (in0 (atN g (in0 n)))).inn.length = 1 ∧ (atN g (in0 (atN g (in0 (atN g (in0 n)))))).kind = 1 then
          (.mk ⟨5, n.op, es0, (atN g (in0 (atN g (in0 (atN g (in0 n)))))).table, val0, [], n.param, n.wk, n.ws⟩ [(atN g (in0 n)).expr, (atN g (in0 (atN g (in0 n)))).expr], true)
        else (.mk (hd0 0) al, false)
      else (.mk (hd0 0) al, false)
    else (.mk (hd0 0) al, false)
  else if n.kind = 8 then
    if al.length = 3 then (.mk (hd0 8) al, true)
    else if al.length = 2 then (if n.op = sDefault then (.mk (hd0 9) al, true) else (.mk { hd0 7 with op := n.op } al, true))
    else (.mk { hd0 6 with op := n.op } al, true)
  else (.mk (hd0 0) al, false)
theorem atN_get {g : List Nd} {t : Int} {k : Nat} (h : k < g.length) (e : t = (k : Int)) : atN g t = g[k] := by
  subst e
  rw [atN, Int.toNat_natCast, List.getD_eq_getElem?_getD, List.getElem?_eq_getElem h]
  rfl
end Go.Lo
namespace Go.Proofs.YtphkmlogjgeipaaGreatDoor
open Go.VL Go.Ar Go.Lo Go.Proofs.YtphkmlogjgeipaaGreatDoor

abbrev zN : List V := [vint 0, vstr es0, vint 0, vstr es0, vstr es0, vstr es0, vint 0, vint 0, vstr es0, nilS, vint 0, vint 0, vint 0, nilS, vstr es0, vint 0, vint 0, vint 0, vint 0, vint 0, vstr es0, vstr es0, nilS]
/-- The boxes of node: the expression that is made (its kind, op, name), the result, the node, the graph. -/
abbrev bxN (b3 b4 b6 b8 : Nat) (g : List Nd) (n : Nd) (a : V) (k o m : V) : List (Nat × B) :=
  [(b8, .c [k, o, m, vstr es0, vint 0, vint 0, vstr es0, nilS, vint 0, vint 0, vint 0, a]), (b6, .c [vint 0, vstr es0, vstr es0, vstr es0, vint 0, vint 0, vstr es0, nilS, vint 0, vint 0, vint 0, nilS]), (b4, .c (cN n n.expr.hd (vEs n.expr.args) (vints n.inn))), (b3, .c [vNds g])]

def InA7 (b3 b4 b6 b8 : Nat) (g : List Nd) (n : Nd) (a : V) (L : Nat → Bool) (S : St) : Prop :=
  S.rows = [] ∧ S.σ 4 = ptr b4 ∧ S.σ 6 = ptr b6 ∧ S.σ 8 = ptr b8 ∧ (L 0 = true → S.σ 25 = pt b4 21) ∧ (L 1 = true → S.σ 26 = vstr n.name) ∧ (L 2 = true → S.σ 27 = pt b8 0) ∧ (L 4 = true → S.σ 28 = pt b8 2) ∧ S.boxes = bxN b3 b4 b6 b8 g n a (bif L 3 then vint 3 else vint 0) (vstr es0) (bif L 5 then vstr n.name else vstr es0)

def InA9 (b3 b4 b6 b8 : Nat) (g : List Nd) (n : Nd) (a : V) (L : Nat → Bool) (S : St) : Prop :=
  S.rows = [] ∧ S.σ 4 = ptr b4 ∧ S.σ 6 = ptr b6 ∧ S.σ 8 = ptr b8 ∧ (L 0 = true → S.σ 31 = pt b4 21) ∧ (L 1 = true → S.σ 32 = vstr n.name) ∧ (L 2 = true → S.σ 33 = pt b8 0) ∧ (L 4 = true → S.σ 34 = pt b8 2) ∧ S.boxes = bxN b3 b4 b6 b8 g n a (bif L 3 then vint 4 else vint 0) (vstr es0) (bif L 5 then vstr n.name else vstr es0)

def InA27 (b3 b4 b6 b8 : Nat) (g : List Nd) (n : Nd) (a : V) (L : Nat → Bool) (S : St) : Prop :=
  S.rows = [] ∧ S.σ 4 = ptr b4 ∧ S.σ 6 = ptr b6 ∧ S.σ 8 = ptr b8 ∧ (L 0 = true → S.σ 150 = pt b4 14) ∧ (L 1 = true → S.σ 151 = vstr n.op) ∧ (L 2 = true → S.σ 152 = pt b8 0) ∧ (L 4 = true → S.σ 153 = pt b8 1) ∧ S.boxes = bxN b3 b4 b6 b8 g n a (bif L 3 then vint 7 else vint 0) (bif L 5 then vstr n.op else vstr es0) (vstr es0)

def InA21 (b3 b4 b6 b8 : Nat) (g : List Nd) (n : Nd) (a : V) (L : Nat → Bool) (S : St) : Prop :=
  S.rows = [] ∧ S.σ 4 = ptr b4 ∧ S.σ 6 = ptr b6 ∧ S.σ 8 = ptr b8 ∧ (L 0 = true → S.σ 127 = pt b4 14) ∧ (L 1 = true → S.σ 128 = vstr n.op) ∧ (L 2 = true → S.σ 129 = pt b8 0) ∧ (L 4 = true → S.σ 130 = pt b8 1) ∧ S.boxes = bxN b3 b4 b6 b8 g n a (bif L 3 then vint 6 else vint 0) (bif L 5 then vstr n.op else vstr es0) (vstr es0)

def InA13 (b3 b4 b6 b8 : Nat) (g : List Nd) (n : Nd) (a : V) (k : Int) (x : Nd) (L : Nat → Bool) (S : St) : Prop :=
  S.rows = [] ∧ S.σ 3 = ptr b3 ∧ S.σ 4 = ptr b4 ∧ S.σ 6 = ptr b6 ∧ S.σ 8 = ptr b8 ∧ (L 0 = true → S.σ 54 = pt b3 0) ∧ (L 1 = true → S.σ 55 = vNds g) ∧ (L 2 = true → S.σ 56 = pt b4 22) ∧ (L 3 = true → S.σ 57 = vints n.inn) ∧ (L 4 = true → S.σ 58 = .ref [vint k]) ∧ (L 5 = true → S.σ 59 = vint k) ∧ (L 6 = true → S.σ 60 = .ref (cNd x)) ∧ (L 7 = true → S.σ 61 = .agg (cN x x.expr.hd (vEs x.expr.args) (vints x.inn))) ∧
    ((L 8 = false ∧ L 9 = false ∧ S.boxes = bxN b3 b4 b6 b8 g n a (vint 0) (vstr es0) (vstr es0)) ∨ (L 8 = true ∧ ∃ z, S.σ 9 = ptr z ∧ ((b3 ≠ z ∧ z ≠ b3) ∧ (b4 ≠ z ∧ z ≠ b4) ∧ (b6 ≠ z ∧ z ≠ b6) ∧ (b8 ≠ z ∧ z ≠ b8)) ∧ (∃ c, c.length = 23 ∧ (L 9 = true → c = cN x x.expr.hd (vEs x.expr.args) (vints x.inn)) ∧ S.boxes = (z, .c c) :: bxN b3 b4 b6 b8 g n a (vint 0) (vstr es0) (vstr es0))))

def InA16 (b3 b4 b6 b8 : Nat) (b9 : Nat) (m : Nd) (g : List Nd) (n : Nd) (a : V) (k : Int) (x : Nd) (L : Nat → Bool) (S : St) : Prop :=
  S.rows = [] ∧ S.σ 3 = ptr b3 ∧ S.σ 4 = ptr b4 ∧ S.σ 6 = ptr b6 ∧ S.σ 8 = ptr b8 ∧ S.σ 9 = ptr b9 ∧ (L 0 = true → S.σ 79 = pt b3 0) ∧ (L 1 = true → S.σ 80 = vNds g) ∧ (L 2 = true → S.σ 81 = pt b9 22) ∧ (L 3 = true → S.σ 82 = vints m.inn) ∧ (L 4 = true → S.σ 83 = .ref [vint k]) ∧ (L 5 = true → S.σ 84 = vint k) ∧ (L 6 = true → S.σ 85 = .ref (cNd x)) ∧ (L 7 = true → S.σ 86 = .agg (cN x x.expr.hd (vEs x.expr.args) (vints x.inn))) ∧
    ((L 8 = false ∧ L 9 = false ∧ S.boxes = (b9, .c (cN m m.expr.hd (vEs m.expr.args) (vints m.inn))) :: bxN b3 b4 b6 b8 g n a (vint 0) (vstr es0) (vstr es0)) ∨ (L 8 = true ∧ ∃ z, S.σ 10 = ptr z ∧ ((b3 ≠ z ∧ z ≠ b3) ∧ (b4 ≠ z ∧ z ≠ b4) ∧ (b6 ≠ z ∧ z ≠ b6) ∧ (b8 ≠ z ∧ z ≠ b8) ∧ (b9 ≠ z ∧ z ≠ b9)) ∧ (∃ c, c.length = 23 ∧ (L 9 = true → c = cN x x.expr.hd (vEs x.expr.args) (vints x.inn)) ∧ S.boxes = (z, .c c) :: (b9, .c (cN m m.expr.hd (vEs m.expr.args) (vints m.inn))) :: bxN b3 b4 b6 b8 g n a (vint 0) (vstr es0) (vstr es0))))

set_option linter.defProp false in
def tbN20 := (aI (aI (aI (aI (aI (aI Ty.sz3 (aI Ty.by3 Ty.ag3)) (aI (aI Ty.zr3 Ty.un3) (aI Ty.sz4 Ty.by4))) (aI (aI Ty.ag4 (aI Ty.zr4 Ty.un4)) (aI (aI Ty.sz9 Ty.by9) (aI Ty.ag9 Ty.zr9)))) (aI (aI (aI Ty.un9 (aI Ty.sz22 Ty.by22)) (aI (aI Ty.ag22 Ty.zr22) (aI Ty.un22 Ty.sz24))) (aI (aI Ty.by24 (aI Ty.ag24 Ty.zr24)) (aI (aI Ty.fl24_0 Ty.pl24_0) (aI Ty.sz28 Ty.by28))))) (aI (aI (aI (aI Ty.ag28 (aI Ty.zr28 Ty.fl28_0)) (aI (aI Ty.pl28_0 Ty.fl28_1) (aI Ty.pl28_1 Ty.fl28_2))) (aI (aI Ty.pl28_2 (aI Ty.sz29 Ty.by29)) (aI (aI Ty.ag29 Ty.zr29) (aI Ty.un29 Ty.sz31)))) (aI (aI (aI Ty.by31 (aI Ty.ag31 Ty.zr31)) (aI (aI Ty.fl31_0 Ty.pl31_0) (aI Ty.fl31_1 Ty.pl31_1))) (aI (aI (aI Ty.sz32 Ty.by32) (aI Ty.ag32 Ty.zr32)) (aI (aI Ty.un32 Ty.sz34) (aI Ty.by34 Ty.ag34)))))) (aI (aI (aI (aI (aI Ty.zr34 (aI Ty.fl34_0 Ty.pl34_0)) (aI (aI Ty.fl34_1 Ty.pl34_1) (aI Ty.fl34_2 Ty.pl34_2))) (aI (aI Ty.fl34_3 (aI Ty.pl34_3 Ty.fl34_4)) (aI (aI Ty.pl34_4 Ty.fl34_5) (aI Ty.pl34_5 Ty.fl34_6)))) (aI (aI (aI Ty.pl34_6 (aI Ty.fl34_7 Ty.pl34_7)) (aI (aI Ty.fl34_8 Ty.pl34_8) (aI Ty.sz45 Ty.by45))) (aI (aI Ty.ag45 (aI Ty.zr45 Ty.un45)) (aI (aI Ty.sz47 Ty.by47) (aI Ty.ag47 Ty.zr47))))) (aI (aI (aI (aI Ty.fl47_0 (aI Ty.pl47_0 Ty.fl47_1)) (aI (aI Ty.pl47_1 Ty.fl47_2) (aI Ty.pl47_2 Ty.fl47_3))) (aI (aI Ty.pl47_3 (aI Ty.fl47_4 Ty.pl47_4)) (aI (aI Ty.fl47_5 Ty.pl47_5) (aI Ty.fl47_6 Ty.pl47_6)))) (aI (aI (aI Ty.fl47_7 (aI Ty.pl47_7 Ty.fl47_8)) (aI (aI Ty.pl47_8 Ty.sz103) (aI Ty.by103 Ty.ag103))) (aI (aI (aI Ty.zr103 Ty.fl103_0) (aI Ty.pl103_0 Ty.fl103_1)) (aI (aI Ty.pl103_1 Ty.eq28) (aI Ty.eq31 Ty.eq103)))))))
theorem node_ok (g : List Nd) (n : Nd) (al : List E) (i : Nat) (hi : i ≤ g.length) (hwf : ∀ j (h : j < g.length), j < i → ∀ t ∈ g[j].inn, 0 ≤ t ∧ t < j) (hn : ∀ t ∈ n.inn, 0 ≤ t ∧ t < i) :
    OkP Tryz.prog 18 [vG g, .agg (cNd n), vEs al] (.tup [vE (nodeM g n al).1, vbool (nodeM g n al).2]) := by
  have fin : ∀ (h : Hd) (l : List E) (u a : V) (b : Bool) (X : List (Nat × B)) (Y : List Row), h.unit = [] → Le u (.list none 2 []) → Le a (vEs l) → nodeM g n al = (.mk h l, b) →
      ∃ v bs' rs', Le (.tup [.agg [vint h.kind, vstr h.op, vstr h.name, vstr h.table, vint h.val.kind, vint h.val.n, vstr h.val.s, u, vint h.param, vint h.wk, vint h.ws, a], .lit (.bool b)]) v ∧ bs'.Sublist X ∧ rs'.Sublist Y ∧ v = .tup [vE (nodeM g n al).1, vbool (nodeM g n al).2] ∧ bs' = [] ∧ rs' = [] := by
    intro h l u a b X Y hu hlu hla hM
    refine ⟨_, [], [], leTup (.cons (leE (h := h) (l := l) ?_ hla) (.cons (Le.refl _) .nil)), List.nil_sublist _, List.nil_sublist _, by rw [hM], rfl, rfl⟩
    rw [hu]
    exact hlu
  have z2 := Le.nil 2
  have h11 : ((1 : Nat) : Int) = 1 := rfl
  simp only [cNd_eq n]
  refine Ok.of_exM [(7, 3), (9, 3), (13, 3), (16, 3), (21, 3), (27, 3)] Ty.mixed Tryz.func18 rfl (by simp [Tryz.ntmps18]) (by kernel_rfl) fun F w0 I0 => ?_
  simp only [↓rA, rB]
  refine fun b3 h3 => ?_; replace h3 := newb h3; try simp only [Nb] at h3
  simp only [↓rA, rB, Nat.reduceEqDiff]
  refine fun b4 h4 => ?_; replace h4 := newb h4; try simp only [Nb] at h4
  simp only [↓rA, rB, tbN20]
  refine fun b6 h6 => ?_; replace h6 := newb h6; try simp only [Nb] at h6
  simp only [↓rA, rB, Nat.reduceAdd, Nat.reduceEqDiff, tbN20]
  refine fun b8 h8 => ?_; replace h8 := newb h8; try simp only [Nb] at h8
  have hb : (b3 ≠ b4 ∧ b4 ≠ b3) ∧ (b3 ≠ b6 ∧ b6 ≠ b3) ∧ (b4 ≠ b6 ∧ b6 ≠ b4) := ⟨h4.1, h6.2.1, h6.1⟩
  rcases (by omega : n.kind = 5 ∨ n.kind = 6 ∨ n.kind = 7 ∨ n.kind = 4 ∨ n.kind = 8 ∨ (¬ n.kind = 5 ∧ ¬ n.kind = 6 ∧ ¬ n.kind = 7 ∧ ¬ n.kind = 4 ∧ ¬ n.kind = 8)) with e | e | e | e | e | e
  · by_cases ha : al.length = 0
    · have ha' : (al.length : Int) = 0 := by omega
      have hM : nodeM g n al = (n.expr, true) := by simp [nodeM, e, ha]
      rw [hM]
      simp only [vE, cE_eq]
      simp only [↓rA, rB, Nat.reduceAdd, Nat.reduceEqDiff, Nat.reduceLeDiff, tbN20, Tryz.results18, h6, h8, e, List.length_map, ha']
      exact ret_done rfl
    · have ha' : ¬ (al.length : Int) = 0 := by omega
      have hM : nodeM g n al = (n.expr, false) := by simp [nodeM, e, ha]
      rw [hM]
      simp only [vE, cE_eq]
      simp only [↓rA, rB, Nat.reduceAdd, Nat.reduceEqDiff, Nat.reduceLeDiff, tbN20, Tryz.results18, h6, h8, e, List.length_map, ha']
      exact ret_done rfl
  · simp only [↓rA, rB, Int.reduceEq, Nat.reduceAdd, Nat.reduceEqDiff, tbN20, Tryz.results18, h6, h8, e]
    refine EX_inv (some true) Ty.mixed (by kernel_rfl) (by kernel_rfl) (InA7 b3 b4 b6 b8 g n (vEs al)) ?_ ?_ ?_
    · refine ⟨?_, ?_, ?_, ?_, fun h => (by cases h), fun h => (by cases h), fun h => (by cases h), fun h => (by cases h), ?_⟩ <;> rfl
    · intro L S i o ho hL he ⟨gr, g4, g6, g8, f0, f1, f2, f4, gb⟩
      match i, ho with
      | 0, ho =>
        cases ho
        simp only [↓rA, rB, reduceCtorEq, tbN20, g4]
        exact ⟨gr, g4, g6, g8, fun _ => rfl, f1, f2, f4, gb⟩
      | 1, ho =>
        cases ho
        have d0 := f0 (he ⟨0, .data⟩ (by simp) rfl)
        simp only [↓rA, rB, reduceCtorEq, tbN20, gb, h6, h8, d0]
        exact ⟨gr, g4, g6, g8, f0, fun _ => rfl, f2, f4, gb⟩
      | 2, ho =>
        cases ho
        simp only [↓rA, rB, reduceCtorEq, tbN20, g8]
        exact ⟨gr, g4, g6, g8, f0, f1, fun _ => rfl, f4, gb⟩
      | 3, ho =>
        cases ho
        have d2 := f2 (he ⟨2, .data⟩ (by simp) rfl)
        simp only [↓rA, rB, Nat.reduceAdd, Nat.reduceLeDiff, tbN20, gb, d2]
        exact ⟨gr, g4, g6, g8, f0, f1, f2, f4, rfl⟩
      | 4, ho =>
        cases ho
        simp only [↓rA, rB, reduceCtorEq, tbN20, g8]
        exact ⟨gr, g4, g6, g8, f0, f1, f2, fun _ => rfl, gb⟩
      | 5, ho =>
        cases ho
        have d4 := f4 (he ⟨4, .data⟩ (by simp) rfl)
        have d1 := f1 (he ⟨1, .data⟩ (by simp) rfl)
        simp only [↓rA, rB, Nat.reduceAdd, Nat.reduceLeDiff, tbN20, gb, d4, d1]
        exact ⟨gr, g4, g6, g8, f0, f1, f2, f4, rfl⟩
      | n + 6, ho => cases ho
    · intro L S hL ⟨gr, g4, g6, g8, f0, f1, f2, f4, gb⟩
      replace hL : ∀ i, i < 6 → L i = true := hL
      have l3 := hL 3 (by decide)
      have l5 := hL 5 (by decide)
      unfold bxN at gb
      rw [l3, l5] at gb
      simp only [cond_true] at gb
      simp only [↓rA, rB, Nat.reduceAdd, Nat.reduceEqDiff, tbN20, gr, g6, g8, gb, h8]
      exact fin { hd0 3 with name := n.name } al _ _ true _ _ rfl z2 (Le.refl _) (by simp [nodeM, e])
  · simp only [↓rA, rB, Int.reduceEq, Nat.reduceAdd, Nat.reduceEqDiff, tbN20, Tryz.results18, h6, h8, e]
    refine EX_inv (some true) Ty.mixed (by kernel_rfl) (by kernel_rfl) (InA9 b3 b4 b6 b8 g n (vEs al)) ?_ ?_ ?_
    · refine ⟨?_, ?_, ?_, ?_, fun h => (by cases h), fun h => (by cases h), fun h => (by cases h), fun h => (by cases h), ?_⟩ <;> rfl
    · intro L S i o ho hL he ⟨gr, g4, g6, g8, f0, f1, f2, f4, gb⟩
      match i, ho with
      | 0, ho =>
        cases ho
        simp only [↓rA, rB, reduceCtorEq, tbN20, g4]
        exact ⟨gr, g4, g6, g8, fun _ => rfl, f1, f2, f4, gb⟩
      | 1, ho =>
        cases ho
        have d0 := f0 (he ⟨0, .data⟩ (by simp) rfl)
        simp only [↓rA, rB, reduceCtorEq, tbN20, gb, h6, h8, d0]
        exact ⟨gr, g4, g6, g8, f0, fun _ => rfl, f2, f4, gb⟩
      | 2, ho =>
        cases ho
        simp only [↓rA, rB, reduceCtorEq, tbN20, g8]
        exact ⟨gr, g4, g6, g8, f0, f1, fun _ => rfl, f4, gb⟩
      | 3, ho =>
        cases ho
        have d2 := f2 (he ⟨2, .data⟩ (by simp) rfl)
        simp only [↓rA, rB, Nat.reduceAdd, Nat.reduceLeDiff, tbN20, gb, d2]
        exact ⟨gr, g4, g6, g8, f0, f1, f2, f4, rfl⟩
      | 4, ho =>
        cases ho
        simp only [↓rA, rB, reduceCtorEq, tbN20, g8]
        exact ⟨gr, g4, g6, g8, f0, f1, f2, fun _ => rfl, gb⟩
      | 5, ho =>
        cases ho
        have d4 := f4 (he ⟨4, .data⟩ (by simp) rfl)
        have d1 := f1 (he ⟨1, .data⟩ (by simp) rfl)
        simp only [↓rA, rB, Nat.reduceAdd, Nat.reduceLeDiff, tbN20, gb, d4, d1]
        exact ⟨gr, g4, g6, g8, f0, f1, f2, f4, rfl⟩
      | n + 6, ho => cases ho
    · intro L S hL ⟨gr, g4, g6, g8, f0, f1, f2, f4, gb⟩
      replace hL : ∀ i, i < 6 → L i = true := hL
      have l3 := hL 3 (by decide)
      have l5 := hL 5 (by decide)
      unfold bxN at gb
      rw [l3, l5] at gb
      simp only [cond_true] at gb
      simp only [↓rA, rB, Nat.reduceAdd, Nat.reduceEqDiff, tbN20, gr, g6, g8, gb, h8]
      exact fin { hd0 4 with name := n.name } al _ _ true _ _ rfl z2 (Le.refl _) (by simp [nodeM, e])
  · have bad : nodeM g n al = (.mk (hd0 0) al, false) → ∀ X Y, ∃ v bs' rs', Le (.tup [.agg [vint 0, vstr es0, vstr es0, vstr es0, vint 0, vint 0, vstr es0, nilS, vint 0, vint 0, vint 0, vEs al], .lit (.bool false)]) v ∧ bs'.Sublist X ∧ rs'.Sublist Y ∧ v = .tup [vE (nodeM g n al).1, vbool (nodeM g n al).2] ∧ bs' = [] ∧ rs' = [] :=
      fun h X Y => fin (hd0 0) al _ _ false X Y rfl z2 (Le.refl _) h
    by_cases c1 : n.inn.length = 1
    case neg =>
      have c1' : ¬ (n.inn.length : Int) = 1 := by omega
      simp only [↓rA, rB, Int.reduceEq, Nat.reduceAdd, Nat.reduceEqDiff, tbN20, Tryz.results18, h6, h8, e, List.length_map, c1']
      exact bad (by simp [nodeM, e, c1]) _ _
    obtain ⟨k0, hk0⟩ : ∃ k, n.inn = [k] := by
      match hq : n.inn, c1 with
      | [k], _ => exact ⟨k, rfl⟩
    have hr0 := hn k0 (by rw [hk0]; exact List.mem_cons_self)
    obtain ⟨j0, rfl⟩ : ∃ j : Nat, k0 = (j : Int) := ⟨k0.toNat, by omega⟩
    have hj0 : j0 < g.length := by omega
    have ha0 : atN g (in0 n) = g[j0] := atN_get hj0 (by rw [in0, hk0]; rfl)
    have hw0 := hwf j0 hj0 (by omega)
    by_cases c2 : g[j0].kind = 3
    case neg =>
      simp only [↓rA, rB, Int.reduceEq, Int.reduceLT, Int.reduceToNat, Nat.reduceAdd, Nat.reduceEqDiff, tbN20, Tryz.results18, h11, h4, h6, h8, e, hk0, Int.ofNat_lt, hj0, List.length_map, getD_map _ _ _ hj0, cNd_eq, c2]
      exact bad (by simp [nodeM, e, c1, ha0, c2]) _ _
    simp only [↓rA, rB, Int.reduceEq, Int.reduceLT, Int.reduceToNat, Nat.reduceAdd, Nat.reduceEqDiff, tbN20, Tryz.results18, h11, h4, h6, h8, e, hk0, Int.ofNat_lt, hj0, List.length_map, getD_map _ _ _ hj0, cNd_eq, c2]
    refine EX_invA Ty.mixed (by kernel_rfl) (by kernel_rfl) (InA13 b3 b4 b6 b8 g n (vEs al) (j0 : Int) g[j0]) ?_ ?_ ?_
    · refine ⟨?_, ?_, ?_, ?_, ?_, fun h => (by cases h), fun h => (by cases h), fun h => (by cases h), fun h => (by cases h), fun h => (by cases h), fun h => (by cases h), fun h => (by cases h), fun h => (by cases h), .inl ⟨rfl, rfl, ?_⟩⟩ <;> first | rfl | simp only [rB, bxN, hk0] | simp only [bxN, hk0]
    · skip
      intro L S i o ho hL he ⟨gr, g3, g4, g6, g8, f0, f1, f2, f3, f4, f5, f6, f7, hph⟩
      match i, ho with
      | 0, ho =>
        cases ho
        rcases hph with ⟨q8, q9, gb⟩ | ⟨q8, z, gz, hz, c, hc, hc9, gb⟩
        · simp only [↓rA, rB, tbN20, g3]
          exact ⟨gr, g3, g4, g6, g8, fun _ => rfl, f1, f2, f3, f4, f5, f6, f7, .inl ⟨q8, q9, gb⟩⟩
        · simp only [↓rA, rB, tbN20, g3]
          exact ⟨gr, g3, g4, g6, g8, fun _ => rfl, f1, f2, f3, f4, f5, f6, f7, .inr ⟨q8, z, gz, hz, c, hc, hc9, gb⟩⟩
      | 1, ho =>
        cases ho
        have d0 := f0 (he ⟨0, .data⟩ (by simp) rfl)
        rcases hph with ⟨q8, q9, gb⟩ | ⟨q8, z, gz, hz, c, hc, hc9, gb⟩
        · simp only [↓rA, rB, tbN20, gb, h4, h6, h8, d0]
          exact ⟨gr, g3, g4, g6, g8, f0, fun _ => rfl, f2, f3, f4, f5, f6, f7, .inl ⟨q8, q9, gb⟩⟩
        · simp only [↓rA, rB, tbN20, gb, h4, h6, h8, hz, d0]
          exact ⟨gr, g3, g4, g6, g8, f0, fun _ => rfl, f2, f3, f4, f5, f6, f7, .inr ⟨q8, z, gz, hz, c, hc, hc9, gb⟩⟩
      | 2, ho =>
        cases ho
        rcases hph with ⟨q8, q9, gb⟩ | ⟨q8, z, gz, hz, c, hc, hc9, gb⟩
        · simp only [↓rA, rB, tbN20, g4]
          exact ⟨gr, g3, g4, g6, g8, f0, f1, fun _ => rfl, f3, f4, f5, f6, f7, .inl ⟨q8, q9, gb⟩⟩
        · simp only [↓rA, rB, tbN20, g4]
          exact ⟨gr, g3, g4, g6, g8, f0, f1, fun _ => rfl, f3, f4, f5, f6, f7, .inr ⟨q8, z, gz, hz, c, hc, hc9, gb⟩⟩
      | 3, ho =>
        cases ho
        have d2 := f2 (he ⟨2, .data⟩ (by simp) rfl)
        rcases hph with ⟨q8, q9, gb⟩ | ⟨q8, z, gz, hz, c, hc, hc9, gb⟩
        · simp only [↓rA, rB, tbN20, gb, h6, h8, d2]
          exact ⟨gr, g3, g4, g6, g8, f0, f1, f2, fun _ => rfl, f4, f5, f6, f7, .inl ⟨q8, q9, gb⟩⟩
        · simp only [↓rA, rB, tbN20, gb, h6, h8, hz, d2]
          exact ⟨gr, g3, g4, g6, g8, f0, f1, f2, fun _ => rfl, f4, f5, f6, f7, .inr ⟨q8, z, gz, hz, c, hc, hc9, gb⟩⟩
      | 4, ho =>
        cases ho
        have d3 := f3 (he ⟨3, .data⟩ (by simp) rfl)
        rcases hph with ⟨q8, q9, gb⟩ | ⟨q8, z, gz, hz, c, hc, hc9, gb⟩
        · simp only [↓rA, rB, Int.reduceToNat, tbN20, d3, hk0]
          exact ⟨gr, g3, g4, g6, g8, f0, f1, f2, f3, fun _ => rfl, f5, f6, f7, .inl ⟨q8, q9, gb⟩⟩
        · simp only [↓rA, rB, Int.reduceToNat, tbN20, d3, hk0]
          exact ⟨gr, g3, g4, g6, g8, f0, f1, f2, f3, fun _ => rfl, f5, f6, f7, .inr ⟨q8, z, gz, hz, c, hc, hc9, gb⟩⟩
      | 5, ho =>
        cases ho
        have d4 := f4 (he ⟨4, .data⟩ (by simp) rfl)
        rcases hph with ⟨q8, q9, gb⟩ | ⟨q8, z, gz, hz, c, hc, hc9, gb⟩
        · simp only [↓rA, rB, tbN20, d4]
          exact ⟨gr, g3, g4, g6, g8, f0, f1, f2, f3, f4, fun _ => rfl, f6, f7, .inl ⟨q8, q9, gb⟩⟩
        · simp only [↓rA, rB, tbN20, d4]
          exact ⟨gr, g3, g4, g6, g8, f0, f1, f2, f3, f4, fun _ => rfl, f6, f7, .inr ⟨q8, z, gz, hz, c, hc, hc9, gb⟩⟩
      | 6, ho =>
        cases ho
        have d1 := f1 (he ⟨1, .data⟩ (by simp) rfl)
        have d5 := f5 (he ⟨5, .data⟩ (by simp) rfl)
        rcases hph with ⟨q8, q9, gb⟩ | ⟨q8, z, gz, hz, c, hc, hc9, gb⟩
        · simp only [↓rA, rB, tbN20, d1, d5, Int.ofNat_lt, hj0, List.length_map, getD_map _ _ _ hj0]
          exact ⟨gr, g3, g4, g6, g8, f0, f1, f2, f3, f4, f5, fun _ => rfl, f7, .inl ⟨q8, q9, gb⟩⟩
        · simp only [↓rA, rB, tbN20, d1, d5, Int.ofNat_lt, hj0, List.length_map, getD_map _ _ _ hj0]
          exact ⟨gr, g3, g4, g6, g8, f0, f1, f2, f3, f4, f5, fun _ => rfl, f7, .inr ⟨q8, z, gz, hz, c, hc, hc9, gb⟩⟩
      | 7, ho =>
        cases ho
        have d6 := f6 (he ⟨6, .data⟩ (by simp) rfl)
        rcases hph with ⟨q8, q9, gb⟩ | ⟨q8, z, gz, hz, c, hc, hc9, gb⟩
        · simp only [↓rA, rB, Nat.reduceAdd, tbN20, d6, cNd_eq]
          exact ⟨gr, g3, g4, g6, g8, f0, f1, f2, f3, f4, f5, f6, fun _ => rfl, .inl ⟨q8, q9, gb⟩⟩
        · simp only [↓rA, rB, Nat.reduceAdd, tbN20, d6, cNd_eq]
          exact ⟨gr, g3, g4, g6, g8, f0, f1, f2, f3, f4, f5, f6, fun _ => rfl, .inr ⟨q8, z, gz, hz, c, hc, hc9, gb⟩⟩
      | 8, ho =>
        cases ho
        rcases hph with ⟨q8, q9, gb⟩ | ⟨q8, _⟩
        · simp only [↓rA, rB, tbN20, gr, gb]
          refine fun z hz => ?_; replace hz := newb hz; try simp only [Nb] at hz
          simp only [↓rA, rB]
          exact ⟨gr, g3, g4, g6, g8, f0, f1, f2, f3, f4, f5, f6, f7, .inr ⟨rfl, z, rfl, ⟨hz.2.2.2.1, hz.2.2.1, hz.2.1, hz.1⟩, zN, rfl, fun h => Bool.noConfusion (Eq.trans (Eq.symm q9) (show L 9 = true from h)), by show (z, B.c zN) :: S.boxes = _; rw [gb]⟩⟩
        · rw [q8] at hL; cases hL
      | 9, ho =>
        cases ho
        have d7 := f7 (he ⟨7, .data⟩ (by simp) rfl)
        have e8 := he ⟨8, .data⟩ (by simp) rfl
        replace e8 : L 8 = true := e8
        rcases hph with ⟨q8, _⟩ | ⟨q8, z, gz, hz, c, hc, hc9, gb⟩
        · rw [q8] at e8; cases e8
        · have hd : c.drop 23 = [] := List.drop_of_length_le (by omega)
          simp only [↓rA, rB, Nat.reduceAdd, tbN20, gb, gz, d7, hc, hd]
          exact ⟨gr, g3, g4, g6, g8, f0, f1, f2, f3, f4, f5, f6, f7, .inr ⟨q8, z, gz, hz, _, rfl, fun _ => rfl, rfl⟩⟩
      | n + 10, ho => cases ho
    · skip
      intro L S hL ⟨gr, g3, g4, g6, g8, f0, f1, f2, f3, f4, f5, f6, f7, hph⟩
      replace hL : ∀ i, i < 10 → L i = true := hL
      have e8 := hL 8 (by decide)
      rcases hph with ⟨q8, _⟩ | ⟨q8, b9, g9, h9, c, hc, hc9, gb⟩
      · rw [q8] at e8; cases e8
      obtain rfl := hc9 (hL 9 (by decide))
      clear f0 f1 f2 f3 f4 f5 f6 f7
      by_cases c3 : g[j0].inn.length = 1
      case neg =>
        have c3' : ¬ (g[j0].inn.length : Int) = 1 := by omega
        simp only [↓rA, rB, Nat.reduceAdd, Nat.reduceEqDiff, tbN20, gr, g6, g8, g9, gb, h8, h9, List.length_map, c3']
        exact bad (by simp [nodeM, e, c1, ha0, c2, c3]) _ _
      obtain ⟨k1, hk1⟩ : ∃ k, g[j0].inn = [k] := by
        match hq : g[j0].inn, c3 with
        | [k], _ => exact ⟨k, rfl⟩
      have hr1 := hw0 k1 (by rw [hk1]; exact List.mem_cons_self)
      obtain ⟨j1, rfl⟩ : ∃ j : Nat, k1 = (j : Int) := ⟨k1.toNat, by omega⟩
      have hj1 : j1 < g.length := by omega
      have ha1 : atN g (in0 g[j0]) = g[j1] := atN_get hj1 (by rw [in0, hk1]; rfl)
      have hw1 := hwf j1 hj1 (by omega)
      by_cases c4 : g[j1].kind = 2
      case neg =>
        simp only [↓rA, rB, Int.reduceLT, Int.reduceToNat, Nat.reduceAdd, Nat.reduceEqDiff, tbN20, h11, gr, g3, g6, g8, g9, gb, h4, h6, h8, h9, hk1, Int.ofNat_lt, hj1, List.length_map, getD_map _ _ _ hj1, cNd_eq, c4]
        exact bad (by simp [nodeM, e, c1, ha0, c2, c3, ha1, c4]) _ _
      simp only [↓rA, rB, Int.reduceLT, Int.reduceToNat, Nat.reduceAdd, Nat.reduceEqDiff, tbN20, h11, g3, g9, gb, h4, h6, h8, h9, hk1, Int.ofNat_lt, hj1, List.length_map, getD_map _ _ _ hj1, cNd_eq, c4]
      refine EX_invA Ty.mixed (by kernel_rfl) (by kernel_rfl) (InA16 b3 b4 b6 b8 b9 g[j0] g n (vEs al) (j1 : Int) g[j1]) ?_ ?_ ?_
      · refine ⟨?_, ?_, ?_, ?_, ?_, ?_, fun h => (by cases h), fun h => (by cases h), fun h => (by cases h), fun h => (by cases h), fun h => (by cases h), fun h => (by cases h), fun h => (by cases h), fun h => (by cases h), .inl ⟨rfl, rfl, ?_⟩⟩ <;> first | rfl | simp only [rB, Nat.reduceEqDiff, gr, g3, g4, g6, g8, g9, gb] | simp only [bxN, hk1]
      · clear gb gr g3 g4 g6 g8 g9
        intro L S i o ho hL he ⟨gr, g3, g4, g6, g8, g9, f0, f1, f2, f3, f4, f5, f6, f7, hph⟩
        match i, ho with
        | 0, ho =>
          cases ho
          rcases hph with ⟨q8, q9, gb⟩ | ⟨q8, z, gz, hz, c, hc, hc9, gb⟩
          · simp only [↓rA, rB, tbN20, g3]
            exact ⟨gr, g3, g4, g6, g8, g9, fun _ => rfl, f1, f2, f3, f4, f5, f6, f7, .inl ⟨q8, q9, gb⟩⟩
          · simp only [↓rA, rB, tbN20, g3]
            exact ⟨gr, g3, g4, g6, g8, g9, fun _ => rfl, f1, f2, f3, f4, f5, f6, f7, .inr ⟨q8, z, gz, hz, c, hc, hc9, gb⟩⟩
        | 1, ho =>
          cases ho
          have d0 := f0 (he ⟨0, .data⟩ (by simp) rfl)
          rcases hph with ⟨q8, q9, gb⟩ | ⟨q8, z, gz, hz, c, hc, hc9, gb⟩
          · simp only [↓rA, rB, tbN20, gb, h4, h6, h8, h9, d0]
            exact ⟨gr, g3, g4, g6, g8, g9, f0, fun _ => rfl, f2, f3, f4, f5, f6, f7, .inl ⟨q8, q9, gb⟩⟩
          · simp only [↓rA, rB, tbN20, gb, h4, h6, h8, h9, hz, d0]
            exact ⟨gr, g3, g4, g6, g8, g9, f0, fun _ => rfl, f2, f3, f4, f5, f6, f7, .inr ⟨q8, z, gz, hz, c, hc, hc9, gb⟩⟩
        | 2, ho =>
          cases ho
          rcases hph with ⟨q8, q9, gb⟩ | ⟨q8, z, gz, hz, c, hc, hc9, gb⟩
          · simp only [↓rA, rB, tbN20, g9]
            exact ⟨gr, g3, g4, g6, g8, g9, f0, f1, fun _ => rfl, f3, f4, f5, f6, f7, .inl ⟨q8, q9, gb⟩⟩
          · simp only [↓rA, rB, tbN20, g9]
            exact ⟨gr, g3, g4, g6, g8, g9, f0, f1, fun _ => rfl, f3, f4, f5, f6, f7, .inr ⟨q8, z, gz, hz, c, hc, hc9, gb⟩⟩
        | 3, ho =>
          cases ho
          have d2 := f2 (he ⟨2, .data⟩ (by simp) rfl)
          rcases hph with ⟨q8, q9, gb⟩ | ⟨q8, z, gz, hz, c, hc, hc9, gb⟩
          · simp only [↓rA, rB, tbN20, gb, d2]
            exact ⟨gr, g3, g4, g6, g8, g9, f0, f1, f2, fun _ => rfl, f4, f5, f6, f7, .inl ⟨q8, q9, gb⟩⟩
          · simp only [↓rA, rB, tbN20, gb, hz, d2]
            exact ⟨gr, g3, g4, g6, g8, g9, f0, f1, f2, fun _ => rfl, f4, f5, f6, f7, .inr ⟨q8, z, gz, hz, c, hc, hc9, gb⟩⟩
        | 4, ho =>
          cases ho
          have d3 := f3 (he ⟨3, .data⟩ (by simp) rfl)
          rcases hph with ⟨q8, q9, gb⟩ | ⟨q8, z, gz, hz, c, hc, hc9, gb⟩
          · simp only [↓rA, rB, Int.reduceToNat, tbN20, d3, hk1]
            exact ⟨gr, g3, g4, g6, g8, g9, f0, f1, f2, f3, fun _ => rfl, f5, f6, f7, .inl ⟨q8, q9, gb⟩⟩
          · simp only [↓rA, rB, Int.reduceToNat, tbN20, d3, hk1]
            exact ⟨gr, g3, g4, g6, g8, g9, f0, f1, f2, f3, fun _ => rfl, f5, f6, f7, .inr ⟨q8, z, gz, hz, c, hc, hc9, gb⟩⟩
        | 5, ho =>
          cases ho
          have d4 := f4 (he ⟨4, .data⟩ (by simp) rfl)
          rcases hph with ⟨q8, q9, gb⟩ | ⟨q8, z, gz, hz, c, hc, hc9, gb⟩
          · simp only [↓rA, rB, tbN20, d4]
            exact ⟨gr, g3, g4, g6, g8, g9, f0, f1, f2, f3, f4, fun _ => rfl, f6, f7, .inl ⟨q8, q9, gb⟩⟩
          · simp only [↓rA, rB, tbN20, d4]
            exact ⟨gr, g3, g4, g6, g8, g9, f0, f1, f2, f3, f4, fun _ => rfl, f6, f7, .inr ⟨q8, z, gz, hz, c, hc, hc9, gb⟩⟩
        | 6, ho =>
          cases ho
          have d1 := f1 (he ⟨1, .data⟩ (by simp) rfl)
          have d5 := f5 (he ⟨5, .data⟩ (by simp) rfl)
          rcases hph with ⟨q8, q9, gb⟩ | ⟨q8, z, gz, hz, c, hc, hc9, gb⟩
          · simp only [↓rA, rB, tbN20, d1, d5, Int.ofNat_lt, hj1, List.length_map, getD_map _ _ _ hj1]
            exact ⟨gr, g3, g4, g6, g8, g9, f0, f1, f2, f3, f4, f5, fun _ => rfl, f7, .inl ⟨q8, q9, gb⟩⟩
          · simp only [↓rA, rB, tbN20, d1, d5, Int.ofNat_lt, hj1, List.length_map, getD_map _ _ _ hj1]
            exact ⟨gr, g3, g4, g6, g8, g9, f0, f1, f2, f3, f4, f5, fun _ => rfl, f7, .inr ⟨q8, z, gz, hz, c, hc, hc9, gb⟩⟩
        | 7, ho =>
          cases ho
          have d6 := f6 (he ⟨6, .data⟩ (by simp) rfl)
          rcases hph with ⟨q8, q9, gb⟩ | ⟨q8, z, gz, hz, c, hc, hc9, gb⟩
          · simp only [↓rA, rB, Nat.reduceAdd, tbN20, d6, cNd_eq]
            exact ⟨gr, g3, g4, g6, g8, g9, f0, f1, f2, f3, f4, f5, f6, fun _ => rfl, .inl ⟨q8, q9, gb⟩⟩
          · simp only [↓rA, rB, Nat.reduceAdd, tbN20, d6, cNd_eq]
            exact ⟨gr, g3, g4, g6, g8, g9, f0, f1, f2, f3, f4, f5, f6, fun _ => rfl, .inr ⟨q8, z, gz, hz, c, hc, hc9, gb⟩⟩
        | 8, ho =>
          cases ho
          rcases hph with ⟨q8, q9, gb⟩ | ⟨q8, _⟩
          · simp only [↓rA, rB, tbN20, gr, gb]
            refine fun z hz => ?_; replace hz := newb hz; try simp only [Nb] at hz
            simp only [↓rA, rB]
            exact ⟨gr, g3, g4, g6, g8, g9, f0, f1, f2, f3, f4, f5, f6, f7, .inr ⟨rfl, z, rfl, ⟨hz.2.2.2.2.1, hz.2.2.2.1, hz.2.2.1, hz.2.1, hz.1⟩, zN, rfl, fun h => Bool.noConfusion (Eq.trans (Eq.symm q9) (show L 9 = true from h)), by show (z, B.c zN) :: S.boxes = _; rw [gb]⟩⟩
          · rw [q8] at hL; cases hL
        | 9, ho =>
          cases ho
          have d7 := f7 (he ⟨7, .data⟩ (by simp) rfl)
          have e8 := he ⟨8, .data⟩ (by simp) rfl
          replace e8 : L 8 = true := e8
          rcases hph with ⟨q8, _⟩ | ⟨q8, z, gz, hz, c, hc, hc9, gb⟩
          · rw [q8] at e8; cases e8
          · have hd : c.drop 23 = [] := List.drop_of_length_le (by omega)
            simp only [↓rA, rB, Nat.reduceAdd, tbN20, gb, gz, d7, hc, hd]
            exact ⟨gr, g3, g4, g6, g8, g9, f0, f1, f2, f3, f4, f5, f6, f7, .inr ⟨q8, z, gz, hz, _, rfl, fun _ => rfl, rfl⟩⟩
        | n + 10, ho => cases ho
      · clear gb gr g3 g4 g6 g8 g9
        intro L S hL ⟨gr, g3, g4, g6, g8, g9, f0, f1, f2, f3, f4, f5, f6, f7, hph⟩
        replace hL : ∀ i, i < 10 → L i = true := hL
        have e8 := hL 8 (by decide)
        rcases hph with ⟨q8, _⟩ | ⟨q8, b10, g10, h10, c, hc, hc9, gb⟩
        · rw [q8] at e8; cases e8
        obtain rfl := hc9 (hL 9 (by decide))
        clear f0 f1 f2 f3 f4 f5 f6 f7
        by_cases c5 : g[j1].inn.length = 1
        case neg =>
          have c5' : ¬ (g[j1].inn.length : Int) = 1 := by omega
          simp only [↓rA, rB, Nat.reduceAdd, Nat.reduceEqDiff, tbN20, gr, g6, g8, g10, gb, h8, h9, h10, List.length_map, c5']
          exact bad (by simp [nodeM, e, c1, ha0, c2, c3, ha1, c4, c5]) _ _
        obtain ⟨k2, hk2⟩ : ∃ k, g[j1].inn = [k] := by
          match hq : g[j1].inn, c5 with
          | [k], _ => exact ⟨k, rfl⟩
        have hr2 := hw1 k2 (by rw [hk2]; exact List.mem_cons_self)
        obtain ⟨j2, rfl⟩ : ∃ j : Nat, k2 = (j : Int) := ⟨k2.toNat, by omega⟩
        have hj2 : j2 < g.length := by omega
        have ha2 : atN g (in0 g[j1]) = g[j2] := atN_get hj2 (by rw [in0, hk2]; rfl)
        have hw2 := hwf j2 hj2 (by omega)
        by_cases c6 : g[j2].kind = 1
        case neg =>
          simp only [↓rA, rB, Int.reduceLT, Int.reduceToNat, Nat.reduceAdd, Nat.reduceEqDiff, tbN20, h11, gr, g3, g6, g8, g10, gb, h4, h6, h8, h9, h10, hk2, Int.ofNat_lt, hj2, List.length_map, getD_map _ _ _ hj2, cNd_eq, c6]
          exact bad (by simp [nodeM, e, c1, ha0, c2, c3, ha1, c4, c5, ha2, c6]) _ _
        simp only [↓rA, rB, Int.reduceLT, Int.reduceToNat, Nat.reduceAdd, Nat.reduceEqDiff, Nat.reduceLT, Nat.reduceLeDiff, Nat.reduceMul, tbN20, h11, gr, g3, g4, g6, g8, g9, g10, gb, h4, h6, h8, h9, h10, hk2, Int.ofNat_lt, hj2, List.length_map, getD_map _ _ _ hj2, cNd_eq, c6]
        refine fin ⟨5, n.op, es0, g[j2].table, val0, [], n.param, n.wk, n.ws⟩ [g[j0].expr, g[j1].expr] _ _ true _ _ rfl z2 ?_ (by simp [nodeM, e, c1, ha0, c2, c3, ha1, c4, c5, ha2, c6])
        simp only [vEs, List.map_cons, List.map_nil, cE_eq]
        first | exact Le.refl _ | exact Le.list _ _ _
  · by_cases a3 : al.length = 3
    · have a3' : (al.length : Int) = 3 := by omega
      simp only [↓rA, rB, Int.reduceEq, Nat.reduceAdd, Nat.reduceEqDiff, Nat.reduceLeDiff, tbN20, Tryz.results18, h6, h8, e, List.length_map, a3']
      exact fin (hd0 8) al _ _ true _ _ rfl z2 (Le.refl _) (by simp [nodeM, e, a3])
    have a3' : ¬ (al.length : Int) = 3 := by omega
    by_cases a2 : al.length = 2
    · have a2' : (al.length : Int) = 2 := by omega
      have a23 : ¬ ((2 : Int) = 3) := by decide
      by_cases od : n.op = sDefault
      · simp only [↓rA, rB, Int.reduceEq, Nat.reduceAdd, Nat.reduceEqDiff, Nat.reduceLeDiff, tbN20, Tryz.results18, h6, h8, e, List.length_map, a2', a23, od]
        exact fin (hd0 9) al _ _ true _ _ rfl z2 (Le.refl _) (by simp [nodeM, e, a2, od])
      · simp only [↓rA, rB, Int.reduceEq, Nat.reduceAdd, Nat.reduceEqDiff, tbN20, Tryz.results18, h6, h8, e, List.length_map, a2', a23, od]
        refine EX_inv (some true) Ty.mixed (by kernel_rfl) (by kernel_rfl) (InA27 b3 b4 b6 b8 g n (vEs al)) ?_ ?_ ?_
        · refine ⟨?_, ?_, ?_, ?_, fun h => (by cases h), fun h => (by cases h), fun h => (by cases h), fun h => (by cases h), ?_⟩ <;> rfl
        · intro L S i o ho hL he ⟨gr, g4, g6, g8, f0, f1, f2, f4, gb⟩
          match i, ho with
          | 0, ho =>
            cases ho
            simp only [↓rA, rB, reduceCtorEq, tbN20, g4]
            exact ⟨gr, g4, g6, g8, fun _ => rfl, f1, f2, f4, gb⟩
          | 1, ho =>
            cases ho
            have d0 := f0 (he ⟨0, .data⟩ (by simp) rfl)
            simp only [↓rA, rB, reduceCtorEq, tbN20, gb, h6, h8, d0]
            exact ⟨gr, g4, g6, g8, f0, fun _ => rfl, f2, f4, gb⟩
          | 2, ho =>
            cases ho
            simp only [↓rA, rB, reduceCtorEq, tbN20, g8]
            exact ⟨gr, g4, g6, g8, f0, f1, fun _ => rfl, f4, gb⟩
          | 3, ho =>
            cases ho
            have d2 := f2 (he ⟨2, .data⟩ (by simp) rfl)
            simp only [↓rA, rB, Nat.reduceAdd, Nat.reduceLeDiff, tbN20, gb, d2]
            exact ⟨gr, g4, g6, g8, f0, f1, f2, f4, rfl⟩
          | 4, ho =>
            cases ho
            simp only [↓rA, rB, reduceCtorEq, tbN20, g8]
            exact ⟨gr, g4, g6, g8, f0, f1, f2, fun _ => rfl, gb⟩
          | 5, ho =>
            cases ho
            have d4 := f4 (he ⟨4, .data⟩ (by simp) rfl)
            have d1 := f1 (he ⟨1, .data⟩ (by simp) rfl)
            simp only [↓rA, rB, Nat.reduceAdd, Nat.reduceLeDiff, tbN20, gb, d4, d1]
            exact ⟨gr, g4, g6, g8, f0, f1, f2, f4, rfl⟩
          | n + 6, ho => cases ho
        · intro L S hL ⟨gr, g4, g6, g8, f0, f1, f2, f4, gb⟩
          replace hL : ∀ i, i < 6 → L i = true := hL
          have l3 := hL 3 (by decide)
          have l5 := hL 5 (by decide)
          unfold bxN at gb
          rw [l3, l5] at gb
          simp only [cond_true] at gb
          simp only [↓rA, rB, Nat.reduceAdd, Nat.reduceEqDiff, tbN20, gr, g6, g8, gb, h8]
          exact fin { hd0 7 with op := n.op } al _ _ true _ _ rfl z2 (Le.refl _) (by simp [nodeM, e, a2, od])
    · have a2' : ¬ (al.length : Int) = 2 := by omega
      simp only [↓rA, rB, Int.reduceEq, Nat.reduceAdd, Nat.reduceEqDiff, tbN20, Tryz.results18, h6, h8, e, List.length_map, a2', a3']
      refine EX_inv (some true) Ty.mixed (by kernel_rfl) (by kernel_rfl) (InA21 b3 b4 b6 b8 g n (vEs al)) ?_ ?_ ?_
      · refine ⟨?_, ?_, ?_, ?_, fun h => (by cases h), fun h => (by cases h), fun h => (by cases h), fun h => (by cases h), ?_⟩ <;> rfl
      · intro L S i o ho hL he ⟨gr, g4, g6, g8, f0, f1, f2, f4, gb⟩
        match i, ho with
        | 0, ho =>
          cases ho
          simp only [↓rA, rB, reduceCtorEq, tbN20, g4]
          exact ⟨gr, g4, g6, g8, fun _ => rfl, f1, f2, f4, gb⟩
        | 1, ho =>
          cases ho
          have d0 := f0 (he ⟨0, .data⟩ (by simp) rfl)
          simp only [↓rA, rB, reduceCtorEq, tbN20, gb, h6, h8, d0]
          exact ⟨gr, g4, g6, g8, f0, fun _ => rfl, f2, f4, gb⟩
        | 2, ho =>
          cases ho
          simp only [↓rA, rB, reduceCtorEq, tbN20, g8]
          exact ⟨gr, g4, g6, g8, f0, f1, fun _ => rfl, f4, gb⟩
        | 3, ho =>
          cases ho
          have d2 := f2 (he ⟨2, .data⟩ (by simp) rfl)
          simp only [↓rA, rB, Nat.reduceAdd, Nat.reduceLeDiff, tbN20, gb, d2]
          exact ⟨gr, g4, g6, g8, f0, f1, f2, f4, rfl⟩
        | 4, ho =>
          cases ho
          simp only [↓rA, rB, reduceCtorEq, tbN20, g8]
          exact ⟨gr, g4, g6, g8, f0, f1, f2, fun _ => rfl, gb⟩
        | 5, ho =>
          cases ho
          have d4 := f4 (he ⟨4, .data⟩ (by simp) rfl)
          have d1 := f1 (he ⟨1, .data⟩ (by simp) rfl)
          simp only [↓rA, rB, Nat.reduceAdd, Nat.reduceLeDiff, tbN20, gb, d4, d1]
          exact ⟨gr, g4, g6, g8, f0, f1, f2, f4, rfl⟩
        | n + 6, ho => cases ho
      · intro L S hL ⟨gr, g4, g6, g8, f0, f1, f2, f4, gb⟩
        replace hL : ∀ i, i < 6 → L i = true := hL
        have l3 := hL 3 (by decide)
        have l5 := hL 5 (by decide)
        unfold bxN at gb
        rw [l3, l5] at gb
        simp only [cond_true] at gb
        simp only [↓rA, rB, Nat.reduceAdd, Nat.reduceEqDiff, tbN20, gr, g6, g8, gb, h8]
        exact fin { hd0 6 with op := n.op } al _ _ true _ _ rfl z2 (Le.refl _) (by simp [nodeM, e, a2, a3])
  · obtain ⟨e5, e6, e7, e4, e8⟩ := e
    simp only [↓rA, rB, Nat.reduceAdd, Nat.reduceEqDiff, tbN20, Tryz.results18, h6, h8, e5, e6, e7, e4, e8]
    exact fin (hd0 0) al _ _ false _ _ rfl z2 (Le.refl _) (by simp [nodeM, e5, e6, e7, e4, e8])
end Go.Proofs.YtphkmlogjgeipaaGreatDoor

/- Contracts of lowering, part u: the model of raising; lower.Raise. -/
set_option linter.unusedSimpArgs false
set_option maxRecDepth 100000
-- @call 20
namespace Go.Lo
open Go.VL Go.Ar
def okIn (i : Nat) (l : List Int) : Bool := l.all fun t => decide (0 ≤ t) && decide (t < i)
theorem okIn_iff {i : Nat} {l : List Int} : okIn i l = true ↔ ∀ t ∈ l, 0 ≤ t ∧ t < i := by simp [okIn]
def szI (ss : List Int) : List Int → Int → Int
  | [], s => s
  | t :: r, s => szI ss r (IntKind.i64.wrap (s + ss.getD t.toNat 0))
theorem szI_snoc (ss : List Int) : ∀ (l : List Int) (t s : Int), szI ss (l ++ [t]) s = IntKind.i64.wrap (szI ss l s + ss.getD t.toNat 0)
  | [], t, s => rfl
  | x :: r, t, s => by simp only [List.cons_append, szI, szI_snoc ss r]
/-- One node is raised behind those before it: their sizes and expressions. -/
def stepM (g : List Nd) (st : List Int × List E) (n : Nd) : Option (List Int × List E) :=
  if okIn st.1.length n.inn = true then
    if n.kind = 1 ∨ n.kind = 2 ∨ n.kind = 3 then some (st.1 ++ [szI st.1 n.inn 1], st.2 ++ [exp0])
    else if (nodeM g n (n.inn.map fun t => st.2.getD t.toNat exp0)).2 = true ∧ ¬ 256 < szI st.1 n.inn 1 then some (st.1 ++ [szI st.1 n.inn 1], st.2 ++ [(nodeM g n (n.inn.map fun t => st.2.getD t.toNat exp0)).1]) else none
  else none
def raiseF (g l : List Nd) : Option (List Int × List E) := l.foldlM (stepM g) ([], [])
theorem raiseF_snoc (g l : List Nd) (n : Nd) : raiseF g (l ++ [n]) = (raiseF g l).bind fun st => stepM g st n := by
  simp [raiseF, List.foldlM_append]
theorem raiseF_none {g l m : List Nd} (h : raiseF g l = none) (hp : l <+: m) : raiseF g m = none := by
  obtain ⟨r, rfl⟩ := hp
  simp only [raiseF, List.foldlM_append] at h ⊢
  rw [h]; rfl
/-- What stands in the room for expressions. -/
structure RelC (cs : List (List V)) (xs : List E) : Prop where
  len : cs.length = xs.length
  el : ∀ k (h : k < cs.length) (h' : k < xs.length), cs[k].length = 12 ∧ okC cs[k] = true ∧ LeL cs[k] (cE xs[k])
abbrev zE : List V := [vint 0, vstr es0, vstr es0, vstr es0, vint 0, vint 0, vstr es0, nilS, vint 0, vint 0, vint 0, nilS]
theorem flat_len {cs : List (List V)} (h : ∀ c ∈ cs, c.length = 12) : cs.flatten.length = cs.length * 12 := by
  induction cs with
  | nil => rfl
  | cons c r ih =>
    rw [List.flatten_cons, List.length_append, h c List.mem_cons_self, ih fun x hx => h x (List.mem_cons_of_mem _ hx), List.length_cons]
    omega
theorem RelC.all {cs : List (List V)} {xs : List E} (h : RelC cs xs) : ∀ c ∈ cs, c.length = 12 := fun c hc => by
  obtain ⟨k, hk, rfl⟩ := List.getElem_of_mem hc
  exact (h.el k hk (by rw [← h.len]; exact hk)).1
theorem RelC.snoc {cs : List (List V)} {xs : List E} (h : RelC cs xs) {c : List V} {x : E} (h1 : c.length = 12) (h2 : okC c = true) (h3 : LeL c (cE x)) : RelC (cs ++ [c]) (xs ++ [x]) := by
  have hl := h.len
  refine ⟨by simp [hl], fun k hk hk' => ?_⟩
  simp only [List.length_append, List.length_cons, List.length_nil] at hk hk'
  rcases Nat.lt_or_ge k cs.length with hc | hc
  · rw [List.getElem_append_left hc, List.getElem_append_left (by omega)]
    exact h.el k hc (by omega)
  · have e : k = cs.length := by omega
    subst e
    rw [List.getElem_append_right (Nat.le_refl _), List.getElem_append_right (by omega)]
    simp only [Nat.sub_self, hl, List.getElem_cons_zero]
    exact ⟨h1, h2, h3⟩
/-- The room at index k. -/
theorem flat_at {cs : List (List V)} (h : ∀ c ∈ cs, c.length = 12) {k : Nat} (hk : k < cs.length) (Z : List V) : ((cs.flatten ++ Z).drop (k * 12)).take 12 = cs[k] ∧ k * 12 + 12 ≤ (cs.flatten ++ Z).length := by
  have e : cs.flatten ++ Z = (cs.take k).flatten ++ (cs[k] ++ ((cs.drop (k + 1)).flatten ++ Z)) := by
    conv => lhs; rw [← List.take_append_drop k cs, List.drop_eq_getElem_cons hk]
    simp only [List.flatten_append, List.flatten_cons, List.append_assoc]
  have hl : (cs.take k).flatten.length = k * 12 := by
    rw [flat_len fun c hc => h c (List.mem_of_mem_take hc), List.length_take, Nat.min_eq_left (by omega)]
  have hc := h _ (List.getElem_mem hk)
  rw [e, List.drop_left' hl, List.take_left' hc]
  refine ⟨rfl, ?_⟩
  simp only [List.length_append, hl, hc]
  omega
end Go.Lo
namespace Go.Proofs.YtphkmlogjgeipaaGreatDoor
open Go.VL Go.Ar Go.Lo Go.Proofs.YtphkmlogjgeipaaGreatDoor
noncomputable def raiseM (g : List Nd) : E × Int := match raiseF g g with
  | none => (exp0, 3)
  | some st => if g = [] then (exp0, 3) else if shapeC (st.2.getLastD exp0) = 0 ∧ g = graphC (st.2.getLastD exp0) then (st.2.getLastD exp0, 0) else (exp0, 3)
theorem okC_cE (x : E) : okC (cE x) = true := by rw [cE_eq]; rfl
theorem relLL {cs : List (List V)} {xs : List E} (h : RelC cs xs) : ∀ (l : List Int), (∀ t ∈ l, 0 ≤ t ∧ t < cs.length) → LeLL (l.map fun t => cs.getD t.toNat []) ((l.map fun t => xs.getD t.toNat exp0).map cE)
  | [], _ => .nil
  | t :: r, ht => by
    obtain ⟨h0, h1⟩ := ht t List.mem_cons_self
    have hk : t.toNat < cs.length := by omega
    have hk' : t.toNat < xs.length := by rw [← h.len]; exact hk
    simp only [List.map_cons]
    refine .cons ?_ (relLL h r fun u hu => ht u (List.mem_cons_of_mem _ hu))
    rw [List.getD_eq_getElem?_getD, List.getElem?_eq_getElem hk, List.getD_eq_getElem?_getD, List.getElem?_eq_getElem hk']
    exact (h.el _ hk hk').2.2
theorem depthEs_le {D : Nat} : ∀ {l : List E}, (∀ x ∈ l, depthE x ≤ D) → depthEs l ≤ D
  | [], _ => Nat.zero_le _
  | x :: r, h => by
    simp only [depthEs]
    exact Nat.max_le.2 ⟨h x List.mem_cons_self, depthEs_le fun y hy => h y (List.mem_cons_of_mem _ hy)⟩
theorem node_fit {g : List Nd} {n : Nd} {al : List E} {D : Nat} (hn : Fit n.expr ∧ depthE n.expr ≤ D) (hg : ∀ m ∈ g, Fit m.expr ∧ depthE m.expr ≤ D) (hl : al.length ≤ big) (ha : ∀ a ∈ al, Fit a ∧ depthE a ≤ D) (hD : 1 ≤ D) : Fit (nodeM g n al).1 ∧ depthE (nodeM g n al).1 ≤ D + 1 := by
  have hat : ∀ t, Fit (atN g t).expr ∧ depthE (atN g t).expr ≤ D := fun t => by
    unfold atN
    rw [List.getD_eq_getElem?_getD]
    cases e : g[t.toNat]? with
    | none => exact ⟨fit_exp0, by simp only [Option.getD_none]; rw [depthE_mk]; simpa [depthEs] using hD⟩
    | some m => exact hg m (List.mem_of_getElem? e)
  have h1 : ∀ (h : Hd) (hu : h.unit.length ≤ big), Fit (.mk h al) ∧ depthE (.mk h al) ≤ D + 1 := fun h hu => ⟨.mk _ _ hu hl fun x hx => (ha x hx).1, by rw [depthE_mk]; exact Nat.succ_le_succ (depthEs_le fun x hx => (ha x hx).2)⟩
  have hz : ([] : List Fac).length ≤ big := Nat.zero_le _
  unfold nodeM
  repeat' split
  all_goals first | exact h1 _ hz | exact ⟨hn.1, by have := hn.2; simp only; omega⟩ | skip
  refine ⟨fitB _ hz (hat _).1 (hat _).1, ?_⟩
  rw [depthE_mk]
  refine Nat.succ_le_succ (depthEs_le fun x hx => ?_)
  rcases List.mem_cons.1 hx with rfl | hx
  · exact (hat _).2
  · obtain rfl := List.mem_singleton.1 hx
    exact (hat _).2
theorem raise_fit {g : List Nd} {ss : List Int} {xs : List E} (hsz : g.length ≤ 1048576) (hf : ∀ n ∈ g, FitN n) (hdp : ∀ n ∈ g, depthE n.expr ≤ 1048576) (h : raiseF g g = some (ss, xs)) : ∀ x ∈ xs, Fit x ∧ depthE x ≤ 4194304 := by
  have key : ∀ i, i ≤ g.length → ∀ ss xs, raiseF g (g.take i) = some (ss, xs) → ∀ x ∈ xs, Fit x ∧ depthE x ≤ 1048577 + i := by
    intro i
    induction i with
    | zero =>
      intro _ ss xs h x hx
      simp only [List.take_zero, raiseF, List.foldlM_nil] at h
      cases h
      cases hx
    | succ i ih =>
      intro hi ss xs h x hx
      have hil : i < g.length := by omega
      rw [List.take_succ_eq_append_getElem hil, raiseF_snoc, Option.bind_eq_some_iff] at h
      obtain ⟨⟨ss0, xs0⟩, h0, h1⟩ := h
      have ih0 := ih (by omega) ss0 xs0 h0
      have hm := List.getElem_mem hil
      have old : ∀ x ∈ xs0, Fit x ∧ depthE x ≤ 1048577 + (i + 1) := fun x hx => ⟨(ih0 x hx).1, by have := (ih0 x hx).2; omega⟩
      unfold stepM at h1
      split at h1
      · split at h1
        · simp only [Option.some.injEq, Prod.mk.injEq] at h1
          obtain ⟨_, rfl⟩ := h1
          rcases List.mem_append.1 hx with hx | hx
          · exact old x hx
          · obtain rfl := List.mem_singleton.1 hx
            exact ⟨fit_exp0, by rw [depthE_mk]; simp only [depthEs]; omega⟩
        · split at h1
          · simp only [Option.some.injEq, Prod.mk.injEq] at h1
            obtain ⟨_, rfl⟩ := h1
            rcases List.mem_append.1 hx with hx | hx
            · exact old x hx
            · obtain rfl := List.mem_singleton.1 hx
              have hfn := hf _ hm
              refine node_fit (D := 1048577 + i) ⟨hfn.1, by have := hdp _ hm; omega⟩ (fun m hm => ⟨(hf m hm).1, by have := hdp m hm; omega⟩) (by rw [List.length_map]; exact hfn.2) (fun a ha => ?_) (by omega)
              obtain ⟨t, _, rfl⟩ := List.mem_map.1 ha
              rw [List.getD_eq_getElem?_getD]
              cases e : xs0[t.toNat]? with
              | none => exact ⟨fit_exp0, by simp only [Option.getD_none]; rw [depthE_mk]; simp only [depthEs]; omega⟩
              | some m => exact ih0 m (List.mem_of_getElem? e)
          · cases h1
      · cases h1
  intro x hx
  have := key g.length (Nat.le_refl _) ss xs (by rw [List.take_of_length_le (Nat.le_refl _)]; exact h) x hx
  exact ⟨this.1, by omega⟩
set_option linter.defProp false in
def tbN30 := (aI (aI (aI (aI (aI (aI (aI Ty.sz3 Ty.by3) (aI Ty.ag3 Ty.zr3)) (aI (aI Ty.un3 Ty.sz4) (aI Ty.by4 Ty.ag4))) (aI (aI (aI Ty.zr4 Ty.un4) (aI Ty.sz9 Ty.by9)) (aI (aI Ty.ag9 Ty.zr9) (aI Ty.un9 Ty.sz22)))) (aI (aI (aI (aI Ty.by22 Ty.ag22) (aI Ty.zr22 Ty.un22)) (aI (aI Ty.sz24 Ty.by24) (aI Ty.ag24 Ty.zr24))) (aI (aI (aI Ty.fl24_0 Ty.pl24_0) (aI Ty.sz28 Ty.by28)) (aI (aI Ty.ag28 Ty.zr28) (aI Ty.fl28_0 (aI Ty.pl28_0 Ty.fl28_1)))))) (aI (aI (aI (aI (aI Ty.pl28_1 Ty.fl28_2) (aI Ty.pl28_2 Ty.sz29)) (aI (aI Ty.by29 Ty.ag29) (aI Ty.zr29 Ty.un29))) (aI (aI (aI Ty.sz31 Ty.by31) (aI Ty.ag31 Ty.zr31)) (aI (aI Ty.fl31_0 Ty.pl31_0) (aI Ty.fl31_1 Ty.pl31_1)))) (aI (aI (aI (aI Ty.sz32 Ty.by32) (aI Ty.ag32 Ty.zr32)) (aI (aI Ty.un32 Ty.sz34) (aI Ty.by34 Ty.ag34))) (aI (aI (aI Ty.zr34 Ty.fl34_0) (aI Ty.pl34_0 Ty.fl34_1)) (aI (aI Ty.pl34_1 Ty.fl34_2) (aI Ty.pl34_2 (aI Ty.fl34_3 Ty.pl34_3))))))) (aI (aI (aI (aI (aI (aI Ty.fl34_4 Ty.pl34_4) (aI Ty.fl34_5 Ty.pl34_5)) (aI (aI Ty.fl34_6 Ty.pl34_6) (aI Ty.fl34_7 Ty.pl34_7))) (aI (aI (aI Ty.fl34_8 Ty.pl34_8) (aI Ty.sz35 Ty.by35)) (aI (aI Ty.ag35 Ty.zr35) (aI Ty.un35 Ty.sz42)))) (aI (aI (aI (aI Ty.by42 Ty.ag42) (aI Ty.sz45 Ty.by45)) (aI (aI Ty.ag45 Ty.zr45) (aI Ty.un45 Ty.sz47))) (aI (aI (aI Ty.by47 Ty.ag47) (aI Ty.zr47 Ty.fl47_0)) (aI (aI Ty.pl47_0 Ty.fl47_1) (aI Ty.pl47_1 (aI Ty.fl47_2 Ty.pl47_2)))))) (aI (aI (aI (aI (aI Ty.fl47_3 Ty.pl47_3) (aI Ty.fl47_4 Ty.pl47_4)) (aI (aI Ty.fl47_5 Ty.pl47_5) (aI Ty.fl47_6 Ty.pl47_6))) (aI (aI (aI Ty.fl47_7 Ty.pl47_7) (aI Ty.fl47_8 Ty.pl47_8)) (aI (aI Ty.sz64 Ty.by64) (aI Ty.ag64 (aI Ty.sz67 Ty.by67))))) (aI (aI (aI (aI Ty.ag67 Ty.zr67) (aI Ty.sz103 Ty.by103)) (aI (aI Ty.ag103 Ty.zr103) (aI Ty.fl103_0 Ty.pl103_0))) (aI (aI (aI Ty.fl103_1 Ty.pl103_1) (aI Ty.eq28 Ty.eq31)) (aI (aI Ty.eq103 Ty.cb13) (aI Ty.cb18 (aI Ty.cb19 Ty.cb20))))))))
theorem raise_ok (g : List Nd) (hsz : g.length ≤ 1048576) (hf : ∀ n ∈ g, FitN n) (hdp : ∀ n ∈ g, depthE n.expr ≤ 1048576) (hin : ∀ n ∈ g, n.inn.length ≤ 1048576) : OkP Tryz.prog 6 [vG g] (.tup [vE (raiseM g).1, vint (raiseM g).2]) := by
  refine Ok.of_ex Ty.mixed Tryz.func6 rfl (by simp [Tryz.ntmps6]) (by kernel_rfl) fun F w0 I0 => ?_
  simp only [↓rA, rB]
  refine fun b1 h1 => ?_; replace h1 := newb h1; try simp only [Nb] at h1
  simp only [↓rA, rB, tbN30]
  refine fun b2 h2 => ?_; replace h2 := newb h2; try simp only [Nb] at h2
  simp only [↓rA, rB, Nat.reduceAdd, Nat.reduceEqDiff, Nat.reduceLT, tbN30, h2, List.length_map]
  refine ⟨⟨by omega, by omega⟩, ?_⟩
  refine fun b4 h4 => ?_; replace h4 := newb h4; try simp only [Nb] at h4
  simp only [↓rA, rB, Nat.reduceAdd, Nat.reduceEqDiff, Nat.reduceLT, tbN30, h2, h4, List.length_map]
  refine ⟨⟨by omega, by omega⟩, ?_⟩
  refine fun b5 h5 => ?_; replace h5 := newb h5; try simp only [Nb] at h5
  have r4 : ∀ m : Nat, (List.replicate m [V.lit (.int .i64 0)]).flatten = List.replicate m (vint 0) := fun m => by
    induction m with
    | zero => rfl
    | succ m ih => rw [List.replicate_succ, List.flatten_cons, ih, List.replicate_succ]; rfl
  have hb : (b1 ≠ b2 ∧ b2 ≠ b1) ∧ (b1 ≠ b4 ∧ b4 ≠ b1) ∧ (b2 ≠ b4 ∧ b4 ≠ b2) ∧ (b1 ≠ b5 ∧ b5 ≠ b1) ∧ (b2 ≠ b5 ∧ b5 ≠ b2) ∧ (b4 ≠ b5 ∧ b5 ≠ b4) := ⟨h2.1, h4.2.1, h4.1, h5.2.2.1, h5.2.1, h5.1⟩
  simp only [↓rA, rB, Nat.reduceEqDiff, tbN30, Tryz.results6, hb, List.length_map]
  refine EX_forS Ty.mixed (by kernel_rfl) g.length (fun i S => (∃ ss xs cs, raiseF g (g.take i) = some (ss, xs) ∧ ss.length = i ∧ xs.length = i ∧ RelC cs xs ∧ (∀ j (h : j < g.length), j < i → ∀ t ∈ g[j].inn, 0 ≤ t ∧ t < j) ∧ S.boxes = [(b5, .c (cs.flatten ++ (List.replicate (g.length - i) zE).flatten)), (b4, .c (ss.map vint ++ List.replicate (g.length - i) (vint 0))), (b2, .c zE), (b1, .c [vNds g])]) ∧ S.rows = [] ∧ S.σ 1 = ptr b1 ∧ S.σ 2 = ptr b2 ∧ S.σ 4 = .lit (.slice (some ⟨b4, 0, none⟩) g.length g.length) ∧ S.σ 5 = .lit (.slice (some ⟨b5, 0, none⟩) g.length g.length) ∧ S.σ 24 = vNds g ∧ S.σ 25 = vint g.length ∧ S.σ 26 = vint i) ⟨_, _, List.Sublist.refl _, List.Sublist.refl _, ?_⟩ (fun i S hi ⟨⟨ss, xs, cs, hF, hss, hxs, hR, hwf, gb⟩, gr, g1, g2, g4, g5, g24, g25, g26⟩ => ?_) (fun S ⟨⟨ss, xs, cs, hF, hss, hxs, hR, hwf, gb⟩, gr, g1, g2, g4, g5, g24, g25, g26⟩ => ?_)
  · simp only [rB, Nat.reduceEqDiff, r4]
    refine ⟨[], [], [], rfl, rfl, rfl, ⟨rfl, fun k h => absurd h (Nat.not_lt_zero k)⟩, fun j _ h => absurd h (Nat.not_lt_zero j), ?_⟩
    rfl
  · obtain ⟨m, hm⟩ : ∃ m, g.length - i = m + 1 := ⟨g.length - i - 1, by omega⟩
    have hm' : g.length - (i + 1) = m := by omega
    rw [hm, List.replicate_succ, List.replicate_succ, List.flatten_cons] at gb
    generalize hZi : List.replicate m (vint 0) = Zi at gb
    generalize hZe : (List.replicate m zE).flatten = Ze at gb
    obtain ⟨W, hW⟩ : ∃ W, W = zE ++ Ze := ⟨_, rfl⟩
    rw [← hW] at gb
    have hcs : cs.length = i := by rw [hR.len]; exact hxs
    have hsl : (ss.map vint).length = i := by rw [List.length_map]; exact hss
    have s1 : ∀ v w : V, List.take i (ss.map vint ++ v :: Zi) ++ [w] ++ List.drop (i + 1) (ss.map vint ++ v :: Zi) = ss.map vint ++ w :: Zi := fun v w => by
      rw [List.take_left' hsl, show ss.map vint ++ v :: Zi = (ss.map vint ++ [v]) ++ Zi by simp, List.drop_left' (by simp [hss])]
      simp
    have s2 : ∀ v : V, List.drop i (ss.map vint ++ v :: Zi) = v :: Zi := fun v => List.drop_left' hsl
    have s3 : ∀ v : V, i + 1 ≤ (ss.map vint ++ v :: Zi).length := fun v => by rw [List.length_append, hsl, List.length_cons]; omega
    have hmem := List.getElem_mem hi
    have hfn := hf _ hmem
    have hinl := hin _ hmem
    have hpre : g.take (i + 1) <+: g := List.take_prefix _ _
    have hst : raiseF g (g.take (i + 1)) = stepM g (ss, xs) g[i] := by rw [List.take_succ_eq_append_getElem hi, raiseF_snoc, hF]; rfl
    have bad : ∀ (X : List (Nat × B)) (Y : List Row), stepM g (ss, xs) g[i] = none → ∃ v bs' rs', Le (.tup [.agg zE, .lit (.int .i64 3)]) v ∧ bs'.Sublist X ∧ rs'.Sublist Y ∧ v = .tup [vE (raiseM g).1, vint (raiseM g).2] ∧ bs' = [] ∧ rs' = [] := fun X Y h => by
      have hr : raiseM g = (exp0, 3) := by rw [raiseM, raiseF_none (hst.trans h) hpre]
      exact ⟨_, [], [], leTup (.cons (leE (h := hd0 0) (l := []) (Le.nil 2) (Le.nil 12)) (.cons (Le.refl _) .nil)), List.nil_sublist _, List.nil_sublist _, by rw [hr], rfl, rfl⟩
    generalize hgi : g[i] = n at *
    simp only [↓rA, rB, Nat.reduceAdd, Nat.reduceEqDiff, tbN30, gb, gr, g24, g25, g26, Int.ofNat_lt, hi, List.length_map, getD_map _ _ _ hi, hgi, cNd_eq]
    refine fun b7 h7 => ?_; replace h7 := newb h7; try simp only [Nb] at h7
    simp only [↓rA, rB, Nat.reduceAdd, Nat.reduceEqDiff, tbN30, gb, g4, hb, h7, Int.ofNat_lt, hi, List.length_map, getD_map _ _ _ hi, hgi, cNd_eq, Nat.mul_one, s1]
    refine ⟨s3 _, ?_⟩
    refine AWP.nilRow 8 12 34 (by simp only [rB, Nat.reduceEqDiff]) (by decide) ?_
    refine EX_forS Ty.mixed (by kernel_rfl) n.inn.length (fun k S => (∃ y, S.σ 8 = .list (some y) 12 ((n.inn.take k).map fun t => cs.getD t.toNat []) ∧ S.rows = [⟨y, 12, 34⟩]) ∧ okIn i (n.inn.take k) = true ∧ S.boxes = [(b7, .c (cN n n.expr.hd (vEs n.expr.args) (vints n.inn))), (b5, .c (cs.flatten ++ W)), (b4, .c (ss.map vint ++ vint (szI ss (n.inn.take k) 1) :: Zi)), (b2, .c zE), (b1, .c [vNds g])] ∧ S.σ 1 = ptr b1 ∧ S.σ 2 = ptr b2 ∧ S.σ 4 = .lit (.slice (some ⟨b4, 0, none⟩) g.length g.length) ∧ S.σ 5 = .lit (.slice (some ⟨b5, 0, none⟩) g.length g.length) ∧ S.σ 6 = vint i ∧ S.σ 7 = ptr b7 ∧ S.σ 24 = vNds g ∧ S.σ 25 = vint g.length ∧ S.σ 26 = vint i ∧ S.σ 35 = vints n.inn ∧ S.σ 36 = vint n.inn.length ∧ S.σ 37 = vint k) ⟨_, _, List.Sublist.refl _, List.Sublist.refl _, ?_⟩ (fun k S hk ⟨⟨y, g8, gr⟩, hok, gb, g1, g2, g4, g5, g6, g7, g24, g25, g26, g35, g36, g37⟩ => ?_) (fun S ⟨⟨y, g8, gr⟩, hok, gb, g1, g2, g4, g5, g6, g7, g24, g25, g26, g35, g36, g37⟩ => ?_)
    · simp only [rB, Nat.reduceEqDiff, gr, g1, g2, g4, g5, g24, g25, g26]
      exact ⟨⟨_, rfl, rfl⟩, rfl, rfl⟩
    · have hwk := wrap_succ (i := k) (N := n.inn.length) hk (by omega)
      have hmk := List.getElem_mem hk
      have hnok : ¬ (0 ≤ n.inn[k] ∧ n.inn[k] < i) → stepM g (ss, xs) n = none := fun h => by
        have : okIn i n.inn = false := by
          cases e : okIn i n.inn
          · rfl
          · exact absurd (okIn_iff.1 e _ hmk) h
        rw [stepM, hss, this]; rfl
      by_cases t1 : n.inn[k] < 0
      · simp only [↓rA, rB, Nat.reduceAdd, Nat.reduceEqDiff, tbN30, gb, gr, g2, g35, g36, g37, hb, h7, Int.ofNat_lt, hk, List.length_map, getD_map _ _ _ hk, t1]
        exact bad _ _ (hnok fun h => by omega)
      by_cases t2 : (i : Int) ≤ n.inn[k]
      · simp only [↓rA, rB, Nat.reduceAdd, Nat.reduceEqDiff, tbN30, gb, gr, g2, g6, g35, g36, g37, hb, h7, Int.ofNat_lt, hk, List.length_map, getD_map _ _ _ hk, t1, t2]
        exact bad _ _ (hnok fun h => by omega)
      obtain ⟨u, hu⟩ : ∃ u : Nat, n.inn[k] = (u : Int) := ⟨n.inn[k].toNat, by omega⟩
      have hui : u < i := by omega
      have hug : u < g.length := by omega
      have huc : u < cs.length := by omega
      have t1' : ¬ (u : Int) < 0 := by omega
      have t2' : ¬ (i : Int) ≤ (u : Int) := by omega
      obtain ⟨f1, f2⟩ := flat_at hR.all huc W
      have f3 : 12 ≤ (List.drop (u * 12) (cs.flatten ++ W)).length := by rw [List.length_drop]; omega
      obtain ⟨c1, c2, c3⟩ := hR.el u huc (by omega)
      have s4 : ∀ v : V, List.drop u (ss.map vint ++ v :: Zi) = vint (ss.getD u 0) :: List.drop (u + 1) (ss.map vint ++ v :: Zi) := fun v => by
        rw [List.drop_eq_getElem_cons (by rw [List.length_append, hsl]; omega), List.getElem_append_left (by rw [hsl]; exact hui)]
        congr 1
        rw [List.getElem_map, List.getD_eq_getElem?_getD, List.getElem?_eq_getElem (by omega)]
        rfl
      simp only [↓rA, rB, Nat.reduceAdd, Nat.reduceEqDiff, Nat.reduceLT, Nat.reduceLeDiff, Nat.reduceMul, tbN30, gb, gr, g4, g5, g6, g8, g35, g36, g37, hb, h7, Int.ofNat_lt, hk, hi, hug, List.length_map, getD_map _ _ _ hk, hu, t1', t2', Nat.mul_one, s1, s2, s4, f1, c1, c2]
      refine ⟨s3 _, f3, fun y1 => takeRF_2 ?_⟩
      have hkl : (k + 1) * 160 ≤ 140737488355328 := by omega
      have hkt : (List.take k n.inn).length = k := by rw [List.length_take]; omega
      simp only [↓rA, rB, Nat.reduceEqDiff, g37, List.length_map, hkt, hkl, hwk]
      refine fun y2 => ⟨_, [⟨y2, 12, 34⟩], List.Sublist.refl _, List.Sublist.cons_cons _ (List.nil_sublist _), ?_⟩
      simp only [rB, Nat.reduceEqDiff, g1, g2, g4, g5, g6, g7, g24, g25, g26, g35, g36]
      rw [List.take_succ_eq_append_getElem hk, List.map_append, hu]
      refine ⟨⟨y2, ?_, rfl⟩, ?_, ?_⟩
      · simp only [List.map_cons, List.map_nil, Int.toNat_natCast]
        rw [List.getD_eq_getElem?_getD, List.getElem?_eq_getElem huc]
        rfl
      · refine okIn_iff.2 fun t ht => ?_
        rcases List.mem_append.1 ht with ht | ht
        · exact okIn_iff.1 hok t ht
        · obtain rfl := List.mem_singleton.1 ht
          omega
      · rw [szI_snoc, Int.toNat_natCast]
    · rw [List.take_of_length_le (Nat.le_refl _)] at g8 hok gb
      have hni := okIn_iff.1 hok
      have hwf' : ∀ j (h : j < g.length), j < i + 1 → ∀ t ∈ g[j].inn, 0 ≤ t ∧ t < j := fun j h hj => by
        rcases Nat.lt_or_ge j i with h' | h'
        · exact hwf j h h'
        · have : j = i := by omega
          subst this
          rw [hgi]
          exact hni
      generalize hz : szI ss n.inn 1 = z at gb
      have hbx : ∀ (x : List V), (cs ++ [x]).flatten ++ (List.replicate (g.length - (i + 1)) zE).flatten = cs.flatten ++ (x ++ Ze) := fun x => by rw [hm', hZe]; simp
      have hby : (ss ++ [z]).map vint ++ List.replicate (g.length - (i + 1)) (vint 0) = ss.map vint ++ vint z :: Zi := by rw [hm', hZi]; simp
      have hwi := wrap_succ (i := i) (N := g.length) hi (by omega)
      by_cases hk : n.kind = 1 ∨ n.kind = 2 ∨ n.kind = 3
      · have hst' : raiseF g (g.take (i + 1)) = some (ss ++ [z], xs ++ [exp0]) := by
          rw [hst, stepM, hss, hok, if_pos rfl, if_pos hk, hz]
        rcases hk with e | e | e
        all_goals
          simp only [↓rA, rB, Int.reduceEq, Nat.reduceAdd, Nat.reduceEqDiff, tbN30, gb, g7, g26, g36, g37, Int.ofNat_lt, Nat.lt_irrefl, e, hwi]
          refine ⟨[(b5, .c (cs.flatten ++ W)), (b4, .c (ss.map vint ++ vint z :: Zi)), (b2, .c zE), (b1, .c [vNds g])], [], by simp only [rB, gb]; exact List.Sublist.cons _ (List.Sublist.refl _), List.nil_sublist _, ?_⟩
          simp only [rB, Nat.reduceEqDiff, g1, g2, g4, g5, g24, g25]
          refine ⟨ss ++ [z], xs ++ [exp0], cs ++ [zE], hst', by simp [hss], by simp [hxs], hR.snoc rfl rfl ?_, hwf', ?_⟩
          · rw [cE_eq]
            exact .cons (Le.refl _) (.cons (Le.refl _) (.cons (Le.refl _) (.cons (Le.refl _) (.cons (Le.refl _) (.cons (Le.refl _) (.cons (Le.refl _) (.cons (Le.nil 2) (.cons (Le.refl _) (.cons (Le.refl _) (.cons (Le.refl _) (.cons (Le.nil 12) .nil)))))))))))
          · rw [hbx, hby, hW]
      · obtain ⟨hk1, hk2, hk3⟩ : ¬ n.kind = 1 ∧ ¬ n.kind = 2 ∧ ¬ n.kind = 3 := ⟨fun e => hk (.inl e), fun e => hk (.inr (.inl e)), fun e => hk (.inr (.inr e))⟩
        have hal := relLL hR n.inn fun t ht => by have := hni t ht; omega
        have hc := node_ok g n (n.inn.map fun t => xs.getD t.toNat exp0) i (by omega) hwf hni
        have hst2 : stepM g (ss, xs) n = if (nodeM g n (n.inn.map fun t => xs.getD t.toNat exp0)).2 = true ∧ ¬ 256 < z then some (ss ++ [z], xs ++ [(nodeM g n (n.inn.map fun t => xs.getD t.toNat exp0)).1]) else none := by
          rw [stepM, hss, hok, if_pos rfl, if_neg hk, hz]
        generalize nodeM g n (n.inn.map fun t => xs.getD t.toNat exp0) = N at hc hst2
        obtain ⟨x, b⟩ := N
        simp only at hst2
        simp only [cNd_eq n, vE, cE_eq x] at hc
        simp only [↓rA, rB, Nat.reduceAdd, Nat.reduceEqDiff, tbN30, gb, g1, g7, g8, g36, g37, hb, h7, Int.ofNat_lt, Nat.lt_irrefl, hk1, hk2, hk3]
        refine OkF_le (.cons (Le.refl _) (.cons (Le.refl _) (.cons (Le.lists hal) .nil))) _ hc ?_
        simp only [↓rA, rB, Nat.reduceEqDiff, tbN30, gr]
        refine fun b11 h11 => ?_; replace h11 := newb h11; try simp only [Nb] at h11
        cases b
        · simp only [↓rA, rB, Nat.reduceAdd, Nat.reduceEqDiff, tbN30, gr, g2, hb, h7, h11]
          exact bad _ _ (by rw [hst2, if_neg (by simp)])
        by_cases hz2 : 256 < z
        · simp only [↓rA, rB, Nat.reduceAdd, Nat.reduceEqDiff, tbN30, gr, g2, g4, g6, hb, h7, h11, Int.ofNat_lt, hi, Nat.mul_one, s2, hz2]
          exact bad _ _ (by rw [hst2, if_neg (by simp [hz2])])
        have hst' : raiseF g (g.take (i + 1)) = some (ss ++ [z], xs ++ [x]) := by
          rw [hst, hst2, if_pos ⟨rfl, hz2⟩]
        have hfl : cs.flatten.length = i * 12 := by rw [flat_len hR.all, hcs]
        have s5 : ∀ y : List V, List.take (i * 12) (cs.flatten ++ W) ++ y ++ List.drop (i * 12 + 12) (cs.flatten ++ W) = cs.flatten ++ (y ++ Ze) := fun y => by
          rw [List.take_left' hfl, hW, show cs.flatten ++ (zE ++ Ze) = (cs.flatten ++ zE) ++ Ze by simp, List.drop_left' (by rw [List.length_append, hfl]; rfl), List.append_assoc]
        have s6 : i * 12 + 12 ≤ (cs.flatten ++ W).length := by
          rw [List.length_append, hfl, hW, List.length_append]
          simp only [List.length_cons, List.length_nil]
          omega
        simp only [↓rA, rB, Nat.reduceAdd, Nat.reduceEqDiff, tbN30, gr, g4, g5, g6, g26, hb, h7, h11, Int.ofNat_lt, hi, Nat.mul_one, s2, hz2, hwi]
        refine ⟨s6, ?_⟩
        refine ⟨[(b5, .c (cs.flatten ++ (cE x ++ Ze))), (b4, .c (ss.map vint ++ vint z :: Zi)), (b2, .c zE), (b1, .c [vNds g])], [], by rw [cE_eq x, ← s5]; exact List.Sublist.cons _ (List.Sublist.cons _ (List.Sublist.refl _)), List.nil_sublist _, ?_⟩
        simp only [rB, Nat.reduceEqDiff, g1, g2, g4, g5, g24, g25]
        refine ⟨ss ++ [z], xs ++ [x], cs ++ [cE x], hst', by simp [hss], by simp [hxs], hR.snoc (cE_len x) (okC_cE x) (LeL.refl _), hwf', ?_⟩
        rw [hbx, hby]
  · rw [List.take_of_length_le (Nat.le_refl _)] at hF
    by_cases h0 : g = []
    · have hr : raiseM g = (exp0, 3) := by rw [raiseM, hF]; simp [h0]
      subst h0
      simp only [↓rA, rB, Int.reduceLT, Nat.reduceAdd, Nat.reduceEqDiff, tbN30, gb, gr, g1, g2, g25, g26, hb]
      exact ⟨_, [], [], leTup (.cons (leE (h := hd0 0) (l := []) (Le.nil 2) (Le.nil 12)) (.cons (Le.refl _) .nil)), List.nil_sublist _, List.nil_sublist _, by rw [hr], rfl, rfl⟩
    have hpos : 0 < g.length := List.length_pos_iff.2 h0
    have h0' : ¬ (g.length : Int) = 0 := by omega
    have hw1 : IntKind.i64.wrap ((g.length : Int) - 1) = ((g.length - 1 : Nat) : Int) := by rw [wrap_id (by omega) (by omega)]; omega
    have hlt : ((g.length - 1 : Nat) : Int) < (g.length : Int) := by omega
    have hcl : g.length - 1 < cs.length := by rw [hR.len, hxs]; omega
    have hxl : g.length - 1 < xs.length := by omega
    obtain ⟨f1, f2⟩ := flat_at hR.all hcl (List.replicate (g.length - g.length) zE).flatten
    obtain ⟨c1, c2, c3⟩ := hR.el _ hcl hxl
    have hxe : xs.getLastD exp0 = xs[g.length - 1] := by
      rw [List.getLastD_eq_getLast?, List.getLast?_eq_getElem?, hxs, List.getElem?_eq_getElem hxl]; rfl
    have hrM : raiseM g = if shapeC xs[g.length - 1] = 0 ∧ g = graphC xs[g.length - 1] then (xs[g.length - 1], 0) else (exp0, 3) := by
      rw [raiseM, hF]
      simp only [if_neg h0, hxe]
    obtain ⟨q1, q2⟩ := raise_fit hsz hf hdp hF _ (List.getElem_mem hxl)
    generalize xs[g.length - 1] = x at c3 hrM q1 q2
    generalize cs[g.length - 1] = c at f1 c1 c2 c3
    have hgr := graph_ok x q1 (by unfold big; omega)
    have f3 : 12 ≤ (List.drop ((g.length - 1) * 12) (cs.flatten ++ (List.replicate (g.length - g.length) zE).flatten)).length := by rw [List.length_drop]; omega
    simp only [↓rA, rB, Nat.reduceAdd, Nat.reduceEqDiff, tbN30, gb, g1, g2, g5, g25, g26, hb, Int.ofNat_lt, Nat.lt_irrefl, List.length_map, h0', hw1, hlt, f1, c1, c2]
    refine ⟨f3, ?_⟩
    have hct : List.take 12 c = c := List.take_of_length_le (by omega)
    have hdc : List.drop 12 c = [] := List.drop_of_length_le (by omega)
    rw [hct]
    refine OkF_le (.cons (leAgg c3) .nil) _ hgr ?_
    simp only [↓rA, rB, Nat.reduceEqDiff, tbN30]
    refine fun b13 h13 => ?_; replace h13 := newb h13; try simp only [Nb] at h13
    have heq := eqNodes_ok g (graphC x) (by unfold big; omega) hf
    have bad3 : ¬ (shapeC x = 0 ∧ g = graphC x) → ∀ (X : List (Nat × B)) (Y : List Row), ∃ v bs' rs', Le (.tup [.agg zE, .lit (.int .i64 3)]) v ∧ bs'.Sublist X ∧ rs'.Sublist Y ∧ v = .tup [vE (raiseM g).1, vint (raiseM g).2] ∧ bs' = [] ∧ rs' = [] := fun h X Y =>
      ⟨_, [], [], leTup (.cons (leE (h := hd0 0) (l := []) (Le.nil 2) (Le.nil 12)) (.cons (Le.refl _) .nil)), List.nil_sublist _, List.nil_sublist _, by rw [hrM, if_neg h], rfl, rfl⟩
    by_cases e : shapeC x = 0
    case neg =>
      simp only [↓rA, rB, Nat.reduceAdd, Nat.reduceEqDiff, Nat.reduceLeDiff, tbN30, g2, hb, h13, e]
      exact ⟨by omega, bad3 (fun h => e h.1) _ _⟩
    simp only [↓rA, rB, Nat.reduceAdd, Nat.reduceEqDiff, tbN30, g1, hb, h13, e]
    refine OkF_of _ heq ?_
    by_cases e2 : g = graphC x
    · rw [decide_eq_true e2]
      simp only [↓rA, rB, Nat.reduceEqDiff, tbN30, g2, hb, h13, e, c1, c2, hct, hdc]
      exact ⟨_, [], [], leTup (.cons (leAgg c3) (.cons (Le.refl _) .nil)), List.nil_sublist _, List.nil_sublist _, by rw [hrM, if_pos ⟨e, e2⟩], rfl, rfl⟩
    · rw [decide_eq_false e2]
      simp only [↓rA, rB, Nat.reduceAdd, Nat.reduceEqDiff, Nat.reduceLeDiff, tbN30, g2, hb, h13, e]
      exact ⟨by omega, bad3 (fun h => e2 h.2) _ _⟩
end Go.Proofs.YtphkmlogjgeipaaGreatDoor

/- Lowering: what is lowered is raised again (the plain law). -/
set_option maxRecDepth 100000
namespace Go.Lo
open Go.VL Go.Ar
def valM (g : List Nd) (n : Nd) (xs : List E) : E := if n.kind = 1 ∨ n.kind = 2 ∨ n.kind = 3 then exp0 else (nodeM g n (n.inn.map fun t => xs.getD t.toNat exp0)).1
theorem getDE_pre {a b : List E} (h : a <+: b) {i : Nat} (hi : i < a.length) : b.getD i exp0 = a.getD i exp0 := by
  obtain ⟨m, rfl⟩ := h
  simp only [List.getD_eq_getElem?_getD]
  rw [List.getElem?_append_left hi]
theorem valM_pre {g : List Nd} {n : Nd} {a b : List E} (h : a <+: b) (hn : ∀ t ∈ n.inn, 0 ≤ t ∧ t < a.length) : valM g n b = valM g n a := by
  unfold valM
  rw [map_congr' fun t ht => getDE_pre h (i := t.toNat) (by have := hn t ht; omega)]
theorem stepM_some {g : List Nd} {n : Nd} {ss ss' : List Int} {xs xs' : List E} (h : stepM g (ss, xs) n = some (ss', xs')) : okIn ss.length n.inn = true ∧ ss' = ss ++ [szI ss n.inn 1] ∧ xs' = xs ++ [valM g n xs] := by
  unfold stepM at h
  unfold valM
  split at h
  · rename_i h1
    split at h
    · rename_i h2
      cases h
      exact ⟨h1, rfl, by rw [if_pos h2]⟩
    · rename_i h2
      split at h
      · cases h
        exact ⟨h1, rfl, by rw [if_neg h2]⟩
      · cases h
  · cases h
theorem raise_at {g L : List Nd} {ss : List Int} {xs : List E} (h : raiseF g L = some (ss, xs)) : ss.length = L.length ∧ xs.length = L.length ∧ ∀ i (hi : i < L.length), xs.getD i exp0 = valM g L[i] xs := by
  have key : ∀ k, k ≤ L.length → ∀ ss xs, raiseF g (L.take k) = some (ss, xs) → ss.length = k ∧ xs.length = k ∧ ∀ i (hi : i < L.length), i < k → xs.getD i exp0 = valM g L[i] xs ∧ ∀ t ∈ L[i].inn, 0 ≤ t ∧ t < i := by
    intro k
    induction k with
    | zero =>
      intro _ ss xs h
      simp only [List.take_zero, raiseF, List.foldlM_nil] at h
      cases h
      exact ⟨rfl, rfl, fun i _ h => absurd h (Nat.not_lt_zero i)⟩
    | succ k ih =>
      intro hk ss xs h
      have hkl : k < L.length := by omega
      rw [List.take_succ_eq_append_getElem hkl, raiseF_snoc, Option.bind_eq_some_iff] at h
      obtain ⟨⟨ss0, xs0⟩, h0, h1⟩ := h
      obtain ⟨l1, l2, l3⟩ := ih (by omega) ss0 xs0 h0
      obtain ⟨o, rfl, rfl⟩ := stepM_some h1
      have hp : xs0 <+: xs0 ++ [valM g L[k] xs0] := List.prefix_append _ _
      have ho := okIn_iff.1 o
      refine ⟨by simp [l1], by simp [l2], fun i hi hik => ?_⟩
      rcases Nat.lt_or_ge i k with h' | h'
      · obtain ⟨q1, q2⟩ := l3 i hi h'
        refine ⟨?_, q2⟩
        rw [getDE_pre hp (by omega), q1, valM_pre hp fun t ht => by have := q2 t ht; omega]
      · have e : i = k := by omega
        subst e
        refine ⟨?_, fun t ht => by have := ho t ht; omega⟩
        rw [valM_pre hp fun t ht => by have := ho t ht; omega]
        rw [List.getD_eq_getElem?_getD, List.getElem?_append_right (by omega), l2, Nat.sub_self]
        rfl
  obtain ⟨a, b, c⟩ := key L.length (Nat.le_refl _) ss xs (by rw [List.take_of_length_le (Nat.le_refl _)]; exact h)
  exact ⟨a, b, fun i hi => (c i hi hi).1⟩
theorem szI_nat {ss : List Nat} : ∀ (l : List Int) (s : Nat), s + (l.map fun t => ss.getD t.toNat 0).sum ≤ 256 → szI (ss.map (fun n : Nat => (n : Int))) l s = ((s + (l.map fun t => ss.getD t.toNat 0).sum : Nat) : Int)
  | [], s, _ => by simp [szI]
  | t :: r, s, h => by
    simp only [List.map_cons, List.sum_cons] at h ⊢
    have e : (ss.map (fun n : Nat => (n : Int))).getD t.toNat 0 = ((ss.getD t.toNat 0 : Nat) : Int) := by
      simp only [List.getD_eq_getElem?_getD, List.getElem?_map]
      cases ss[t.toNat]? <;> rfl
    rw [szI, e, wrap_id (by omega) (by omega), show ((s : Int) + ((ss.getD t.toNat 0 : Nat) : Int)) = ((s + ss.getD t.toNat 0 : Nat) : Int) by omega, szI_nat r _ (by omega)]
    congr 1
    omega
abbrev ints (l : List Nat) : List Int := l.map fun n : Nat => (n : Int)
theorem putM_get (L : List Nd) (n : Nd) : ∃ h : (putM L n).2 < (putM L n).1.length, (putM L n).1[(putM L n).2] = n := by
  have hm : n ∈ (putM L n).1 := by
    unfold putM
    split
    · assumption
    · simp
  by_cases h : n ∈ L
  · obtain ⟨a, b⟩ := idxM_get h
    refine ⟨?_, ?_⟩
    · simp only [putM, if_pos h]; exact a
    · simp only [putM, if_pos h]; exact b
  · have e : idxM L n = L.length := idxM_not fun j hj e => h (by rw [e]; exact List.getElem_mem hj)
    refine ⟨?_, ?_⟩
    · simp only [putM, if_neg h, e, List.length_append, List.length_cons, List.length_nil]; omega
    · simp only [putM, if_neg h, e]
      rw [List.getElem_append_right (Nat.le_refl _)]
      simp
theorem putM_pre (L : List Nd) (n : Nd) : L <+: (putM L n).1 := by
  unfold putM
  split
  · exact List.prefix_refl _
  · exact List.prefix_append _ _
end Go.Lo
namespace Go.Proofs.YtphkmlogjgeipaaGreatDoor
open Go.VL Go.Ar Go.Lo Go.Proofs.YtphkmlogjgeipaaGreatDoor
theorem put_raise {g L L1 : List Nd} {rs : List Int} {ns : List Nat} {a c : Nat} {xs : List E} {n : Nd} (h : Low L L1 rs ns a c) (hr : raiseF g L1 = some (ints (szs L1), xs)) (hn : n.inn = rs) (hs : 1 + ns.sum ≤ 256)
    (hk : (n.kind = 1 ∨ n.kind = 2 ∨ n.kind = 3) ∨ (nodeM g n (n.inn.map fun t => xs.getD t.toNat exp0)).2 = true) :
    ∃ xs', raiseF g (putM L1 n).1 = some (ints (szs (putM L1 n).1), xs') ∧ xs <+: xs' ∧ xs'.getD (putM L1 n).2 exp0 = valM g n xs := by
  obtain ⟨l1, l2, l3⟩ := raise_at hr
  by_cases hm : n ∈ L1
  · obtain ⟨hq, hqe⟩ := idxM_get hm
    rw [putM_old hm]
    exact ⟨xs, hr, List.prefix_refl _, by rw [l3 _ hq, hqe]⟩
  · rw [putM_new hm]
    have hz : szI (ints (szs L1)) n.inn 1 = ((1 + ns.sum : Nat) : Int) := by
      have := szI_nat (ss := szs L1) n.inn 1 (by rw [hn, h.nse]; exact hs)
      rw [hn, h.nse] at this
      rw [hn]
      exact this
    have hok : okIn (ints (szs L1)).length n.inn = true := okIn_iff.2 fun t ht => by
      rw [hn] at ht
      have := h.rsb t ht
      rw [l1]
      exact this
    have hst : stepM g (ints (szs L1), xs) n = some (ints (szs (L1 ++ [n])), xs ++ [valM g n xs]) := by
      have hz2 : ¬ 256 < szI (ints (szs L1)) n.inn 1 := by rw [hz]; omega
      have e : ints (szs (L1 ++ [n])) = ints (szs L1) ++ [szI (ints (szs L1)) n.inn 1] := by
        rw [szs_snoc, hz, szF, hn, h.nse]
        simp [ints]
      unfold stepM valM
      rw [e]
      simp only [hok, if_true]
      by_cases h3 : n.kind = 1 ∨ n.kind = 2 ∨ n.kind = 3
      · rw [if_pos h3, if_pos h3]
      · rw [if_neg h3, if_neg h3, if_pos ⟨hk.resolve_left h3, hz2⟩]
    refine ⟨xs ++ [valM g n xs], ?_, List.prefix_append _ _, ?_⟩
    · rw [raiseF_snoc, hr]
      exact hst
    · simp only [List.getD_eq_getElem?_getD]
      rw [List.getElem?_append_right (by omega), l2, Nat.sub_self]
      rfl
end Go.Proofs.YtphkmlogjgeipaaGreatDoor

/- Lowering: the graph of an expression is raised to this expression. -/
set_option maxRecDepth 100000
namespace Go.Proofs.YtphkmlogjgeipaaGreatDoor
open Go.VL Go.Ar Go.Lo Go.Proofs.YtphkmlogjgeipaaGreatDoor
theorem own_node {h : Hd} {l : List E} (hk5 : ¬ h.kind = 5) (hp : okHd h false = true) (hw : h = wantH h) (hl : (l.length : Int) = manyH h.kind) (g : List Nd) (ks : List Int) :
    nodeM g { ownM h l with inn := ks } l = (.mk h l, true) ∧ ¬ (({ ownM h l with inn := ks } : Nd).kind = 1 ∨ ({ ownM h l with inn := ks } : Nd).kind = 2 ∨ ({ ownM h l with inn := ks } : Nd).kind = 3) := by
  by_cases e1 : h.kind = 1
  · have l0 : l.length = 0 := by
      rw [e1] at hl
      have : (l.length : Int) = 0 := hl
      omega
    simp [nodeM, ownM, e1, l0]
  by_cases e2 : h.kind = 2
  · simp [okHd, e2] at hp
  by_cases e3 : h.kind = 3
  · have hw' : h = { hd0 3 with name := h.name } := by rw [hw]; simp [wantH, e3]
    refine ⟨?_, by simp [ownM, e3]⟩
    have : nodeM g { ownM h l with inn := ks } l = (.mk { hd0 3 with name := h.name } l, true) := by simp [nodeM, ownM, e3]
    rw [this, ← hw']
  by_cases e4 : h.kind = 4
  · have hw' : h = { hd0 4 with name := h.name } := by rw [hw]; simp [wantH, e4]
    refine ⟨?_, by simp [ownM, e4]⟩
    have : nodeM g { ownM h l with inn := ks } l = (.mk { hd0 4 with name := h.name } l, true) := by simp [nodeM, ownM, e4]
    rw [this, ← hw']
  by_cases e6 : h.kind = 6
  · have l1 : l.length = 1 := by
      rw [e6] at hl
      have : (l.length : Int) = 1 := hl
      omega
    have hw' : h = { hd0 6 with op := h.op } := by rw [hw]; simp [wantH, e6]
    refine ⟨?_, by simp [ownM, e6]⟩
    have : nodeM g { ownM h l with inn := ks } l = (.mk { hd0 6 with op := h.op } l, true) := by simp [nodeM, ownM, e6, l1]
    rw [this, ← hw']
  by_cases e7 : h.kind = 7
  · have l2 : l.length = 2 := by
      rw [e7] at hl
      have : (l.length : Int) = 2 := hl
      omega
    have hop : ¬ h.op = sDefault := by
      intro e
      have hm : memS binL h.op = true := by simpa [okHd, e7] using hp
      rw [e] at hm
      revert hm
      decide +kernel
    have hw' : h = { hd0 7 with op := h.op } := by rw [hw]; simp [wantH, e7]
    refine ⟨?_, by simp [ownM, e7]⟩
    have : nodeM g { ownM h l with inn := ks } l = (.mk { hd0 7 with op := h.op } l, true) := by simp [nodeM, ownM, e7, l2, hop]
    rw [this, ← hw']
  by_cases e8 : h.kind = 8
  · have l3 : l.length = 3 := by
      rw [e8] at hl
      have : (l.length : Int) = 3 := hl
      omega
    have hw' : h = hd0 8 := by rw [hw]; simp [wantH, e8]
    refine ⟨?_, by simp [ownM, e8]⟩
    have : nodeM g { ownM h l with inn := ks } l = (.mk (hd0 8) l, true) := by simp [nodeM, ownM, e8, l3]
    rw [this, ← hw']
  have e9 : h.kind = 9 := by simpa [okHd, e1, e2, e3, e4, hk5, e6, e7, e8] using hp
  have l2 : l.length = 2 := by
    rw [e9] at hl
    have : (l.length : Int) = 2 := hl
    omega
  have hw' : h = hd0 9 := by rw [hw]; simp [wantH, e9]
  refine ⟨?_, by simp [ownM, e9]⟩
  have : nodeM g { ownM h l with inn := ks } l = (.mk (hd0 9) l, true) := by simp [nodeM, ownM, e9, l2]
  rw [this, ← hw']
/-- An expression that is lowered stands, raised, at its place. -/
def Back (g : List Nd) (x : E) : Prop := ∀ L xs, WF L → L.Nodup → raiseF g L = some (ints (szs L), xs) → (lowE L x).1 <+: g → nsE x ≤ 256 →
  ∃ xs', raiseF g (lowE L x).1 = some (ints (szs (lowE L x).1), xs') ∧ xs <+: xs' ∧ xs'.getD (lowE L x).2 exp0 = x
theorem lowEs_pre : ∀ (l : List E) (L : List Nd), (∀ x ∈ l, ∀ L, L <+: (lowE L x).1) → L <+: (lowEs L l).1
  | [], L, _ => List.prefix_refl _
  | x :: r, L, h => (h x List.mem_cons_self L).trans (lowEs_pre r _ fun y hy => h y (List.mem_cons_of_mem _ hy))
theorem overM_pre (L : List Nd) (h : Hd) (a c : E) : L <+: (overM L h a c).1 := (putM_pre _ _).trans ((putM_pre _ _).trans ((putM_pre _ _).trans (putM_pre _ _)))
theorem lowE_pre : ∀ (x : E) (L : List Nd), L <+: (lowE L x).1 := by
  intro x
  induction x using E.ind with
  | h hd l ih =>
  intro L
  rw [lowE_mk]
  split
  · unfold aggM
    split
    · exact overM_pre _ _ _ _
    · exact List.prefix_refl _
  · exact (lowEs_pre l L ih).trans (putM_pre _ _)
theorem lowEs_raise {g : List Nd} : ∀ (l : List E), (∀ x ∈ l, Agg2 x) → (∀ x ∈ l, Back g x) → ∀ L xs, WF L → L.Nodup → raiseF g L = some (ints (szs L), xs) → (lowEs L l).1 <+: g → (nsEs l).sum ≤ 256 →
    ∃ xs', raiseF g (lowEs L l).1 = some (ints (szs (lowEs L l).1), xs') ∧ xs <+: xs' ∧ (lowEs L l).2.map (fun t => xs'.getD t.toNat exp0) = l
  | [], _, _, L, xs, _, _, hr, _, _ => ⟨xs, hr, List.prefix_refl _, rfl⟩
  | x :: r, ha, hb, L, xs, hw, hn, hr, hp, hs => by
    simp only [nsEs, List.sum_cons] at hs
    rw [lowEs] at hp
    have h1 := low_ok x (ha x List.mem_cons_self) L hw hn
    have hp1 : (lowE L x).1 <+: g := (lowEs_pre r _ fun y _ => lowE_pre y).trans hp
    obtain ⟨xs1, a1, a2, a3⟩ := hb x List.mem_cons_self L xs hw hn hr hp1 (by omega)
    obtain ⟨xs2, b1, b2, b3⟩ := lowEs_raise r (fun y hy => ha y (List.mem_cons_of_mem _ hy)) (fun y hy => hb y (List.mem_cons_of_mem _ hy)) (lowE L x).1 xs1 h1.wf h1.nd a1 hp (by omega)
    have hl := (raise_at a1).2.1
    have hq := h1.rsb _ List.mem_cons_self
    refine ⟨xs2, by rw [lowEs]; exact b1, a2.trans b2, ?_⟩
    rw [lowEs]
    simp only [List.map_cons, Int.toNat_natCast]
    rw [b3, getDE_pre b2 (by omega), a3]
theorem over_raise {g : List Nd} {h : Hd} {a c : E} (hw : h = wantH h) (e : h.kind = 5) : ∀ L xs, WF L → L.Nodup → raiseF g L = some (ints (szs L), xs) → (overM L h a c).1 <+: g →
    ∃ xs', raiseF g (overM L h a c).1 = some (ints (szs (overM L h a c).1), xs') ∧ xs <+: xs' ∧ xs'.getD (overM L h a c).2 exp0 = .mk h [a, c] := by
  intro L xs hwf hn hr hp
  simp only [overM] at hp ⊢
  generalize hn1 : ({ nd0 1 with table := h.table } : Nd) = n1 at hp ⊢
  generalize hL1 : putM L n1 = p1 at hp ⊢
  generalize hn2 : ({ nd0 2 with expr := c, inn := [(p1.2 : Int)] } : Nd) = n2 at hp ⊢
  generalize hL2 : putM p1.1 n2 = p2 at hp ⊢
  generalize hn3 : ({ nd0 3 with expr := a, inn := [(p2.2 : Int)] } : Nd) = n3 at hp ⊢
  generalize hL3 : putM p2.1 n3 = p3 at hp ⊢
  generalize hn4 : ({ nd0 4 with op := h.op, param := h.param, wk := h.wk, ws := h.ws, inn := [(p3.2 : Int)] } : Nd) = n4 at hp ⊢
  have q1 : p1.1 <+: p2.1 := hL2 ▸ putM_pre _ _
  have q2 : p2.1 <+: p3.1 := hL3 ▸ putM_pre _ _
  have q3 : p3.1 <+: (putM p3.1 n4).1 := putM_pre _ _
  have w1 := low_put (n := n1) (Low.refl hwf hn) (by rw [← hn1])
  obtain ⟨x1, r1, s1, _⟩ := put_raise (n := n1) (Low.refl hwf hn) hr (by rw [← hn1]) (by decide) (.inl (.inl (by rw [← hn1])))
  rw [hL1] at w1 r1
  have w2 := low_put (n := n2) w1 (by rw [← hn2])
  obtain ⟨x2, r2, s2, _⟩ := put_raise (n := n2) w1 r1 (by rw [← hn2]) (by decide) (.inl (.inr (.inl (by rw [← hn2]))))
  rw [hL2] at w2 r2
  have w3 := low_put (n := n3) w2 (by rw [← hn3])
  obtain ⟨x3, r3, s3, _⟩ := put_raise (n := n3) w2 r2 (by rw [← hn3]) (by decide) (.inl (.inr (.inr (by rw [← hn3]))))
  rw [hL3] at w3 r3
  have at1 : atN g (p1.2 : Int) = n1 := by
    obtain ⟨k, ke⟩ := putM_get L n1
    rw [hL1] at k
    obtain ⟨k', ke'⟩ := pre_get ((q1.trans q2).trans (q3.trans hp)) k
    rw [atN_get k' rfl, ke']
    simp only [hL1] at ke
    exact ke
  have at2 : atN g (p2.2 : Int) = n2 := by
    obtain ⟨k, ke⟩ := putM_get p1.1 n2
    rw [hL2] at k
    obtain ⟨k', ke'⟩ := pre_get (q2.trans (q3.trans hp)) k
    rw [atN_get k' rfl, ke']
    simp only [hL2] at ke
    exact ke
  have at3 : atN g (p3.2 : Int) = n3 := by
    obtain ⟨k, ke⟩ := putM_get p2.1 n3
    rw [hL3] at k
    obtain ⟨k', ke'⟩ := pre_get (q3.trans hp) k
    rw [atN_get k' rfl, ke']
    simp only [hL3] at ke
    exact ke
  have hh : h = ⟨5, h.op, es0, h.table, val0, [], h.param, h.wk, h.ws⟩ := by
    conv => lhs; rw [hw]
    simp [wantH, e]
  have hv : ∀ al, nodeM g n4 al = (.mk h [a, c], true) := fun al => by
    have i4 : in0 n4 = (p3.2 : Int) := by rw [← hn4]; rfl
    have i3 : in0 n3 = (p2.2 : Int) := by rw [← hn3]; rfl
    have i2 : in0 n2 = (p1.2 : Int) := by rw [← hn2]; rfl
    unfold nodeM
    rw [i4, at3, i3, at2, i2, at1]
    conv => rhs; rw [hh]
    rw [← hn4, ← hn3, ← hn2, ← hn1]
    simp
  obtain ⟨x4, r4, s4, v4⟩ := put_raise (n := n4) w3 r3 (by rw [← hn4]) (by decide) (.inr (by rw [hv]))
  refine ⟨x4, r4, s1.trans (s2.trans (s3.trans s4)), ?_⟩
  rw [v4, valM, hv, if_neg (by rw [← hn4]; simp)]
theorem back_ok (g : List Nd) : ∀ x, properE x false = true → Back g x := by
  intro x
  induction x using E.ind with
  | h hd l ih =>
  intro hp L xs hw hn hr hpre hs
  obtain ⟨p1, p2, p3, p4, _⟩ := proper_parts hp
  by_cases e : hd.kind = 5
  · have l2 : l.length = 2 := by
      rw [e] at p3
      have : (l.length : Int) = 2 := p3
      omega
    match l, l2 with
    | [a, c], _ =>
      rw [lowE_agg _ _ _ _ _ e] at hpre ⊢
      exact over_raise p2 e L xs hw hn hr hpre
  · rw [nsE_mk, if_neg e] at hs
    rw [lowE_op _ _ _ e] at hpre ⊢
    have hall : ∀ z ∈ l, properE z false = true := fun z hz => by have := p4 z hz; simpa [e] using this
    have hag : ∀ z ∈ l, Agg2 z := fun z hz => proper_agg2 z _ (hall z hz)
    have h1 := lowEs_low l L (fun z hz => low_ok z (hag z hz)) hw hn
    obtain ⟨xs1, a1, a2, a3⟩ := lowEs_raise l hag (fun z hz => ih z hz (hall z hz)) L xs hw hn hr ((putM_pre _ _).trans hpre) (by omega)
    obtain ⟨o1, o2⟩ := own_node e p1 p2 p3 g (lowEs L l).2
    obtain ⟨xs2, b1, b2, b3⟩ := put_raise (n := { ownM hd l with inn := (lowEs L l).2 }) h1 a1 rfl (by omega) (.inr (by rw [own_inn, a3, o1]))
    refine ⟨xs2, b1, a2.trans b2, ?_⟩
    rw [b3, valM, if_neg o2, own_inn, a3, o1]
theorem nsE_le : ∀ x, Agg2 x → nsE x ≤ 2 * sizeE x := by
  intro x
  induction x using E.ind with
  | h hd l ih =>
  intro hg
  cases hg with
  | mk _ _ hk ha =>
  rw [nsE_mk, sizeE_mk]
  have hsum : (nsEs l).sum ≤ 2 * sizeEs l := by
    clear hk
    induction l with
    | nil => simp [nsEs, sizeEs]
    | cons y r ihr =>
      have h1 := ih y List.mem_cons_self (ha y List.mem_cons_self)
      have h2 := ihr (fun z hz => ih z (List.mem_cons_of_mem _ hz)) (fun z hz => ha z (List.mem_cons_of_mem _ hz))
      simp only [nsEs, sizeEs, List.sum_cons]
      omega
  split
  · rename_i e
    match l, hk e with
    | a :: b :: r, _ =>
      have h1 := sizeE_pos a
      simp only [sizeEs]
      omega
  · omega
theorem raise_graph (x : E) (h : shapeC x = 0) : raiseM (graphC x) = (x, 0) := by
  obtain ⟨p1, p2, p3⟩ := shape_parts h
  have hag := proper_agg2 x false p3
  have hg : graphC x = (lowE [] x).1 := by rw [graphC, if_pos h]
  have hn := nsE_le x hag
  obtain ⟨xs, a1, a2, a3⟩ := back_ok (graphC x) x p3 [] [] (fun i hi => by cases hi) List.nodup_nil rfl (by rw [hg]; exact List.prefix_refl _) (by omega)
  have hr := root_last x hag
  have hl := (raise_at a1).2.1
  rw [← hg] at a1 hr hl
  have hne : ¬ graphC x = [] := by
    intro e
    rw [e] at hr
    simp at hr
  have hlast : xs.getLastD exp0 = x := by
    rw [List.getLastD_eq_getLast?, List.getLast?_eq_getElem?, hl, hr, Nat.add_sub_cancel, ← List.getD_eq_getElem?_getD]
    exact a3
  rw [raiseM, a1]
  simp only [if_neg hne, hlast]
  rw [if_pos ⟨h, trivial⟩]
end Go.Proofs.YtphkmlogjgeipaaGreatDoor

/- Lowering: what comes in: expressions out of typed cells; the package variables that the rows list. -/
set_option linter.unusedSimpArgs false
set_option maxRecDepth 100000
namespace Go.Proofs.YtphkmlogjgeipaaGreatDoor
open Go.VL Go.Ar Go.Lo Go.RowKit Go.ChangeShapes Go.WideShapes Go.Proofs.YtphkmlogjgeipaaGreatDoor

/-! ### Variables that hold strings -/
theorem strs_lies {P : Program} {w : World} {I : Cells} {enc : TypeId × Value → Unit} {base : Nat} {spare : Nat → Bool} {held : Bool} {n : Nat} {e : TypeId} {b o : Nat} (hI : ∀ b o x, w.cell? ⟨b, o, none⟩ = some x → I b o) (he : P.underlying e = some .string) :
    ∀ (ss : List ByteArray) (j : Nat) (elems : List (DataW Unit × List MemPlace)), elems.map (·.1) = ss.map (fun s => .lit (.string s.data.toList)) →
      (∀ i, i < ss.length → (w.cells? base ((⟨b, o, none⟩ : Addr).add ((j + i) * 1)) 1).bind (DataW.trod enc P w base spare held n e) = elems[i]?) → V.lies w I 1 (ss.map fun s => [V.lit (.string s)]) b (o + j)
  | [], j, elems, _, _ => by simp only [List.map_nil, V.lies]
  | s :: ss, j, [], h, _ => by simp at h
  | s :: ss, j, y :: elems, h, hd => by
    simp only [List.map_cons, List.cons.injEq] at h
    have h0 := hd 0 (by simp)
    simp only [Nat.add_zero, Nat.mul_one, List.getElem?_cons_zero, Option.bind_eq_some_iff] at h0
    obtain ⟨cs, hcs, ht⟩ := h0
    obtain ⟨s', rfl, hy, _⟩ := DataW.trod_string he ht
    have hs : s' = s := by
      have h1 := h.1
      rw [hy] at h1
      simp only [DataW.lit.injEq, Lit.string.injEq] at h1
      obtain ⟨⟨l⟩⟩ := s
      obtain ⟨⟨l'⟩⟩ := s'
      simp only at h1
      rw [h1]
    subst hs
    obtain ⟨_, _, hcell⟩ := World.cells?_some hcs
    have hc0 := hcell 0 (by simp)
    simp only [List.getElem?_cons_zero] at hc0
    have hc1 : w.cell? ⟨b, o + j, none⟩ = some (.string s') := by
      rw [← hc0]
      by_cases hj : j = 0
      · subst hj; rfl
      · simp [Addr.add, hj]
    simp only [List.map_cons, V.lies, V.ats]
    refine ⟨⟨⟨_, hc1, hI _ _ _ hc1, by simp [Go.VL.one], by simp only [V.rep]⟩, trivial⟩, rfl, ?_⟩
    have ih := strs_lies (enc := enc) (base := base) (spare := spare) (held := held) (n := n) hI he ss (j + 1) elems h.2 fun i hi => by
      have := hd (i + 1) (by simp only [List.length_cons]; omega)
      rw [show j + (i + 1) = j + 1 + i by omega] at this
      simpa using this
    exact ih
theorem strs_rep {P : Program} {w : World} {I : Cells} {enc : TypeId × Value → Unit} {base : Nat} {spare : Nat → Bool} {held : Bool} {fuel : Nat} {t e : TypeId} {cs : List Value} {p : List MemPlace} (hI : ∀ b o x, w.cell? ⟨b, o, none⟩ = some x → I b o)
    (hu : P.underlying t = some (.slice e)) (he : P.underlying e = some .string) (hc : P.cellsOf e = 1) (s : ByteArray) (ss : List ByteArray)
    (h : DataW.trod enc P w base spare held fuel t cs = some (.slice ((s :: ss).map fun s => .lit (.string s.data.toList)) [], p)) : ∃ x, cs = [x] ∧ Go.VL.one x ∧ V.rep w I (.list none 1 ((s :: ss).map fun s => [V.lit (.string s)])) x := by
  rcases DataW.trod_slice hu h with ⟨_, hx⟩ | ⟨a, len, cap, elems, rest, n, rfl, rfl, hx, hb, hl, hm, hlen, hel, _, _⟩
  · cases hx
  · simp only [Prod.mk.injEq, DataW.slice.injEq] at hx
    obtain ⟨⟨hx1, hx2⟩, _⟩ := hx
    have hss : elems.length = ss.length + 1 := by
      have := congrArg List.length hx1
      simpa using this.symm
    obtain ⟨b, o, spot⟩ := a
    have hspot : spot = none := by
      have h0 := hel 0 (by omega)
      rw [hc, show elems[0]? = some (elems[0]'(by omega)) from by simp, Option.bind_eq_some_iff] at h0
      obtain ⟨cs0, hcs0, _⟩ := h0
      obtain ⟨_, hl0, hcell0⟩ := World.cells?_some hcs0
      have g0 := hcell0 0 (by omega)
      obtain ⟨c0, hc0⟩ : ∃ c0, cs0[0]? = some c0 := ⟨cs0[0]'(by omega), by simp⟩
      rw [hc0] at g0
      have := World.cell?_spot g0
      cases spot with
      | none => rfl
      | some q => simp [Addr.add] at this
    subst hspot
    have hls := strs_lies (b := b) (o := o) hI he (s :: ss) 0 elems hx1.symm fun i hi => by
      have := hel i (by simp only [List.length_cons] at hi; omega)
      rw [hc] at this
      rw [Nat.zero_add]
      exact this
    refine ⟨_, rfl, by simp [Go.VL.one], ?_⟩
    simp only [V.rep]
    refine ⟨fun y hy => (by cases hy), some ⟨b, o, none⟩, cap, ?_, ?_, .inr ⟨b, o, rfl, hls⟩⟩
    · simp only [List.length_map, List.length_cons]; congr 1; omega
    · simp only [List.length_map, List.length_cons]; omega
/-- What the rows list of package variables. -/
abbrev laidL : List (String × DataW Unit) := [("asof/checker.aggregates", Rows.laid_asof_checker_aggregates), ("asof/checker.unary", Rows.laid_asof_checker_unary), ("asof/checker.binary", Rows.laid_asof_checker_binary)]
theorem glob_of {W : World} (h : laidMetH Tryz.prog laidL W) (hsh : W.ShapedOpen Tryz.prog) : Glob W fun b _ => b < W.heap.size := by
  have hI : ∀ b o x, W.cell? ⟨b, o, none⟩ = some x → (fun b _ => b < W.heap.size : Cells) b o := fun b o x hx => by
    unfold World.cell? at hx
    show b < W.heap.size
    by_cases h : b < W.heap.size
    · exact h
    · rw [Array.getElem?_eq_none (by simpa using h)] at hx; simp at hx
  have one : ∀ {nm : String} {g t : Nat} {g' t' : Nat} {cs : Array Value} {fuel : Nat} {p : List MemPlace} (s : ByteArray) (ss : List ByteArray), Tryz.prog.globalNamed nm = some g → (Tryz.prog.globals[g]?).map (·.type) = some t → Tryz.prog.underlying t = some (.slice 9) → 
      Tryz.prog.globalNamed nm = some g' → (Tryz.prog.globals[g']?).map (·.type) = some t' → W.var? Tryz.prog nm = some cs → DataW.trod (fun _ => ()) Tryz.prog W 0 (fun _ => true) false fuel t' cs.toList = some (.slice ((s :: ss).map fun s => .lit (.string s.data.toList)) [], p) →
      V.ats W (fun b _ => b < W.heap.size) [.list none 1 ((s :: ss).map fun s => [V.lit (.string s)])] g 0 := by
    intro nm g t g' t' cs fuel p s ss hg ht hu hg' ht' hvar hd
    obtain rfl := Option.some.inj (hg.symm.trans hg')
    obtain rfl := Option.some.inj (ht.symm.trans ht')
    obtain ⟨x, hx, h1, hr⟩ := strs_rep (I := fun b _ => b < W.heap.size) hI hu Ty.un9 (by kernel_rfl) s ss hd
    have hc := World.var?_cell hg hvar 0
    have hx' : cs[0]? = some x := by
      have := congrArg (·[0]?) hx
      simpa using this
    rw [hx'] at hc
    simp only [V.ats]
    exact ⟨⟨x, hc, hI _ _ _ hc, h1, hr⟩, trivial⟩
  obtain ⟨ps, ⟨g0, t0, cs0, f0, p0, q0, a0, b0, c0, d0, ⟨g1, t1, cs1, f1, p1, q1, a1, b1, c1, d1, ⟨g2, t2, cs2, f2, p2, q2, a2, b2, c2, d2, _⟩, _⟩, _⟩, _⟩ := h
  refine ⟨fun p hp => ?_, fun g hg => ?_⟩
  · have hp' : p ∈ globsV := hp
    simp only [globsV, List.mem_cons, List.not_mem_nil, or_false] at hp'
    rcases hp' with rfl | rfl | rfl
    · exact one (t := 78) ⟨#[99, 111, 117, 110, 116]⟩ [⟨#[115, 117, 109]⟩, ⟨#[109, 101, 97, 110]⟩, ⟨#[109, 105, 110]⟩, ⟨#[109, 97, 120]⟩, ⟨#[102, 105, 114, 115, 116]⟩, ⟨#[108, 97, 115, 116]⟩, ⟨#[100, 105, 115, 116, 105, 110, 99, 116]⟩, ⟨#[113, 117, 97, 110, 116, 105, 108, 101]⟩, ⟨#[100, 101, 99, 97, 121]⟩] (by kernel_rfl : Tryz.prog.globalNamed "asof/checker.aggregates" = some 0) (by kernel_rfl) (by kernel_rfl) a0 b0 c0 d0
    · exact one (t := 78) ⟨#[45]⟩ [⟨#[110, 111, 116]⟩, ⟨#[110, 117, 108, 108]⟩] (by kernel_rfl : Tryz.prog.globalNamed "asof/checker.unary" = some 1) (by kernel_rfl) (by kernel_rfl) a1 b1 c1 d1
    · exact one (t := 78) ⟨#[43]⟩ [⟨#[45]⟩, ⟨#[42]⟩, ⟨#[47]⟩, ⟨#[61, 61]⟩, ⟨#[33, 61]⟩, ⟨#[60]⟩, ⟨#[60, 61]⟩, ⟨#[97, 110, 100]⟩, ⟨#[111, 114]⟩] (by kernel_rfl : Tryz.prog.globalNamed "asof/checker.binary" = some 2) (by kernel_rfl) (by kernel_rfl) a2 b2 c2 d2
  · obtain rfl := List.mem_singleton.1 hg
    obtain ⟨m, hm⟩ := cell_of_shapedOpen_int (P := Tryz.prog) (g := 3) (t := 3) (zero := #[.int .i64 0]) hsh (of_decide_eq_true (by kernel_rfl)) (by kernel_rfl) rfl (by kernel_rfl) (by kernel_rfl) Ty.un3
    exact ⟨m, hm, hI _ _ _ hm⟩
/-! ### Expressions and graphs that came in -/
theorem bulks_pos : ∀ vs : List V, vs.length ≤ V.bulks vs
  | [] => Nat.zero_le _
  | v :: r => by
    have := bulks_pos r
    have h1 : 1 ≤ V.bulk v := by
      cases v with
      | lit x => cases x <;> simp [V.bulk]
      | list a k es => simp [V.bulk]
      | _ => simp [V.bulk]
    simp only [V.bulks, List.length_cons]; omega
theorem inv_list {α : Type} {t e : TypeId} {k d m : Nat} (hu : Tryz.prog.underlying t = some (.slice e)) (hk : Tryz.prog.cellsOf e = k) (c : α → List V) (G : α → Prop) (wt : α → Nat) 
    (inv : ∀ vs, V.bulks vs ≤ m → TV Tryz.prog d e vs → ∃ x, LeL vs (c x) ∧ G x ∧ wt x ≤ V.bulks vs) (pos : ∀ x, 0 < (c x).length) {v : V} (h : TV Tryz.prog (d + 1) t [v]) (hm : V.bulk v ≤ m) :
    ∃ l : List α, Le v (.list none k (l.map c)) ∧ l.length + 1 ≤ V.bulk v ∧ ∀ x ∈ l, G x ∧ wt x + 1 ≤ V.bulk v := by
  simp only [TV, hu] at h
  rcases h with h | ⟨es, h, hmax, hes⟩
  · cases h
    exact ⟨[], Le.nil k, by simp [V.bulk], fun x hx => by cases hx⟩
  · rw [hk] at h
    cases h
    clear hmax
    have hb : V.bulk (.list none k es) = V.bulkss es + 1 := by simp [V.bulk]
    rw [hb] at hm ⊢
    have : ∃ l : List α, LeLL es (l.map c) ∧ l.length ≤ V.bulkss es ∧ ∀ x ∈ l, G x ∧ wt x ≤ V.bulkss es := by
      clear hb
      induction es with
      | nil => exact ⟨[], .nil, Nat.zero_le _, fun x hx => by cases hx⟩
      | cons y es ih =>
        simp only [V.bulkss] at hm
        obtain ⟨x, h1, h2, h3⟩ := inv y (by omega) (hes y List.mem_cons_self)
        obtain ⟨l, g1, g2, g3⟩ := ih (fun z hz => hes z (List.mem_cons_of_mem _ hz)) (by omega)
        have hp := bulks_pos y
        rw [LeL_len h1] at hp
        have := pos x
        refine ⟨x :: l, .cons h1 g1, ?_, ?_⟩
        · simp only [List.length_cons, V.bulkss]; omega
        · intro z hz
          rcases List.mem_cons.1 hz with rfl | hz
          · exact ⟨h2, by simp only [V.bulkss]; omega⟩
          · obtain ⟨q1, q2⟩ := g3 z hz
            exact ⟨q1, by simp only [V.bulkss]; omega⟩
    obtain ⟨l, g1, g2, g3⟩ := this
    exact ⟨l, Le.lists g1, by omega, fun x hx => ⟨(g3 x hx).1, by have := (g3 x hx).2; omega⟩⟩
theorem inv_int {d : Nat} {v : List V} (h : TV Tryz.prog d 3 v) : ∃ n, v = [vint n] := by
  cases d with
  | zero => exact h.elim
  | succ d =>
    simp only [TV, Ty.un3] at h
    obtain ⟨n, rfl, hw⟩ := h
    exact ⟨n, rfl⟩
theorem inv_str {d : Nat} {v : List V} (h : TV Tryz.prog d 9 v) : ∃ s : Str, v = [vstr s] := by
  cases d with
  | zero => exact h.elim
  | succ d =>
    simp only [TV, Ty.un9] at h
    obtain ⟨s, rfl, _⟩ := h
    exact ⟨s, rfl⟩
theorem inv_fac {d : Nat} {vs : List V} (h : TV Tryz.prog d 103 vs) : ∃ x : Fac, vs = cFac x := by
  cases d with
  | zero => exact h.elim
  | succ d =>
    simp only [TV, Tryz.underlying103, TVF] at h
    obtain ⟨x1, y1, rfl, h1, x2, y2, rfl, h2, rfl⟩ := h
    obtain ⟨s, rfl⟩ := inv_str h1
    obtain ⟨n, rfl⟩ := inv_int h2
    exact ⟨⟨s, n⟩, rfl⟩
theorem inv_val {d : Nat} {vs : List V} (h : TV Tryz.prog d 28 vs) : ∃ v : Val, vs = [vint v.kind, vint v.n, vstr v.s] := by
  cases d with
  | zero => exact h.elim
  | succ d =>
    simp only [TV, Tryz.underlying28, TVF] at h
    obtain ⟨x1, y1, rfl, h1, x2, y2, rfl, h2, x3, y3, rfl, h3, rfl⟩ := h
    obtain ⟨k, rfl⟩ := inv_int h1
    obtain ⟨n, rfl⟩ := inv_int h2
    obtain ⟨s, rfl⟩ := inv_str h3
    exact ⟨⟨k, n, s⟩, rfl⟩
theorem inv_win {d : Nat} {vs : List V} (h : TV Tryz.prog d 31 vs) : ∃ a b : Int, vs = [vint a, vint b] := by
  cases d with
  | zero => exact h.elim
  | succ d =>
    simp only [TV, Tryz.underlying31, TVF] at h
    obtain ⟨x1, y1, rfl, h1, x2, y2, rfl, h2, rfl⟩ := h
    obtain ⟨k, rfl⟩ := inv_int h1
    obtain ⟨n, rfl⟩ := inv_int h2
    exact ⟨k, n, rfl⟩
theorem one_slice {d : Nat} {t e : TypeId} {vs : List V} (hu : Tryz.prog.underlying t = some (.slice e)) (h : TV Tryz.prog d t vs) : ∃ v d', vs = [v] ∧ d = d' + 1 := by
  cases d with
  | zero => exact h.elim
  | succ d =>
    simp only [TV, hu] at h
    rcases h with h | ⟨es, h, _⟩
    · exact ⟨_, _, h, rfl⟩
    · exact ⟨_, _, h, rfl⟩
theorem inv_expr : ∀ (d : Nat) (vs : List V), V.bulks vs ≤ big → TV Tryz.prog d 34 vs → ∃ x : E, LeL vs (cE x) ∧ Fit x ∧ depthE x ≤ V.bulks vs := by
  intro d
  induction d using Nat.strongRecOn with
  | ind d ih =>
  intro vs hb h
  cases d with
  | zero => exact h.elim
  | succ d =>
    simp only [TV, Tryz.underlying34, TVF] at h
    obtain ⟨x1, y1, rfl, h1, x2, y2, rfl, h2, x3, y3, rfl, h3, x4, y4, rfl, h4, x5, y5, rfl, h5, x6, y6, rfl, h6, x7, y7, rfl, h7, x8, y8, rfl, h8, x9, y9, rfl, h9, rfl⟩ := h
    obtain ⟨kind, rfl⟩ := inv_int h1
    obtain ⟨op, rfl⟩ := inv_str h2
    obtain ⟨name, rfl⟩ := inv_str h3
    obtain ⟨table, rfl⟩ := inv_str h4
    obtain ⟨val, rfl⟩ := inv_val h5
    obtain ⟨u, d', rfl, rfl⟩ := one_slice Ty.un29 h6
    obtain ⟨param, rfl⟩ := inv_int h7
    obtain ⟨wk, ws, rfl⟩ := inv_win h8
    obtain ⟨a, _, rfl, _⟩ := one_slice Ty.un32 h9
    simp only [List.cons_append, List.nil_append, V.bulks] at hb
    obtain ⟨us, u1, u2, u3⟩ := inv_list (m := big) Ty.un29 (by kernel_rfl : Tryz.prog.cellsOf 103 = 2) cFac (fun _ => True) (fun _ => 0) (fun vs _ h => by obtain ⟨x, rfl⟩ := inv_fac h; exact ⟨x, LeL.refl _, trivial, Nat.zero_le _⟩) (fun _ => Nat.succ_pos _) h6 (by omega)
    obtain ⟨la, a1, a2, a3⟩ := inv_list (m := big) Ty.un32 (by kernel_rfl : Tryz.prog.cellsOf 34 = 12) cE (fun x => Fit x) depthE (fun vs hm h => ih d' (by omega) vs hm h) (fun x => by rw [cE_len]; decide) h9 (by omega)
    refine ⟨.mk ⟨kind, op, name, table, val, us, param, wk, ws⟩ la, ?_, ?_, ?_⟩
    · rw [cE_mk]
      exact .cons (Le.refl _) (.cons (Le.refl _) (.cons (Le.refl _) (.cons (Le.refl _) (.cons (Le.refl _) (.cons (Le.refl _) (.cons (Le.refl _) (.cons u1 (.cons (Le.refl _) (.cons (Le.refl _) (.cons (Le.refl _) (.cons a1 .nil)))))))))))
    · exact .mk _ _ (by simp only; omega) (by omega) fun x hx => (a3 x hx).1
    · rw [depthE_mk]
      simp only [List.cons_append, List.nil_append, V.bulks]
      have : depthEs la + 1 ≤ V.bulk a := by
        have h0 := a2
        clear a1 a2
        induction la with
        | nil => simp only [depthEs, List.length_nil] at h0 ⊢; omega
        | cons x r ihr =>
          have hx := (a3 x List.mem_cons_self).2
          have hr := ihr (fun y hy => a3 y (List.mem_cons_of_mem _ hy)) (by simp only [List.length_cons] at h0; omega)
          simp only [depthEs]
          omega
      omega
theorem in_expr {d : Nat} {a : V} (h : TA Tryz.prog d 34 a) (hb : V.bulkA a ≤ 1048576) : ∃ x : E, Le a (vE x) ∧ Fit x ∧ depthE x ≤ 1048576 := by
  unfold TA at h
  simp only [Ty.ag34] at h
  obtain ⟨vs, rfl, h⟩ := h
  have hb' : V.bulks vs ≤ 1048576 := hb
  obtain ⟨x, h1, h2, h3⟩ := inv_expr d vs (by unfold big; omega) h
  exact ⟨x, leAgg h1, h2, by omega⟩
theorem bulkAs_mem : ∀ {zs : List V} {a : V}, a ∈ zs → V.bulkA a ≤ V.bulkAs zs
  | b :: r, a, h => by
    rcases List.mem_cons.1 h with rfl | h
    · simp only [V.bulkAs]; omega
    · have := bulkAs_mem h; simp only [V.bulkAs]; omega

/-! ### The bulk that the rows speak of -/
mutual
theorem bulk_eq {H : Type} : ∀ d : DataW H, Rows.uptoBulk d = bulkD d
  | .lit (.string b) => by simp only [Rows.uptoBulk, bulkD]
  | .lit (.int _ _) => by simp only [Rows.uptoBulk, bulkD]
  | .lit (.bool _) => by simp only [Rows.uptoBulk, bulkD]
  | .lit (.float _ _) => by simp only [Rows.uptoBulk, bulkD]
  | .lit .nil => by simp only [Rows.uptoBulk, bulkD]
  | .nil => by simp only [Rows.uptoBulk, bulkD]
  | .ptr d => by simp only [Rows.uptoBulk, bulkD, bulk_eq d]
  | .slice es sp => by simp only [Rows.uptoBulk, bulkD, bulks_eq es, bulks_eq sp]
  | .agg ps => by simp only [Rows.uptoBulk, bulkD, bulks_eq ps]
  | .iface _ d => by simp only [Rows.uptoBulk, bulkD, bulk_eq d]
  | .map es => by simp only [Rows.uptoBulk, bulkD, bulke_eq es]
  | .held _ => by simp only [Rows.uptoBulk, bulkD]
theorem bulks_eq {H : Type} : ∀ ds : List (DataW H), Rows.uptoBulkAll ds = bulkDs ds
  | [] => by simp only [Rows.uptoBulkAll, bulkDs]
  | d :: r => by simp only [Rows.uptoBulkAll, bulkDs, bulk_eq d, bulks_eq r]
theorem bulke_eq {H : Type} : ∀ es : List (Lit × DataW H), Rows.uptoBulkEntries es = bulkDe es
  | [] => by simp only [Rows.uptoBulkEntries, bulkDe]
  | x :: r => by simp only [Rows.uptoBulkEntries, bulkDe, bulkx_eq x, bulke_eq r]
theorem bulkx_eq {H : Type} : ∀ x : Lit × DataW H, Rows.uptoBulkEntry x = bulkDx x
  | (.string b, d) => by simp only [Rows.uptoBulkEntry, bulkDx, bulk_eq d]
  | (.int _ _, d) => by simp only [Rows.uptoBulkEntry, bulkDx, bulk_eq d]
  | (.bool _, d) => by simp only [Rows.uptoBulkEntry, bulkDx, bulk_eq d]
  | (.float _ _, d) => by simp only [Rows.uptoBulkEntry, bulkDx, bulk_eq d]
  | (.nil, d) => by simp only [Rows.uptoBulkEntry, bulkDx, bulk_eq d]
end
end Go.Proofs.YtphkmlogjgeipaaGreatDoor

/- Contracts of lowering, part v: Check; what a graph that is raised is. -/
set_option linter.unusedSimpArgs false
set_option maxRecDepth 100000
namespace Go.Proofs.YtphkmlogjgeipaaGreatDoor
open Go.VL Go.Ar Go.Lo Go.Proofs.YtphkmlogjgeipaaGreatDoor
theorem len_size : ∀ l : List E, l.length ≤ sizeEs l
  | [] => Nat.zero_le _
  | x :: r => by
    have := len_size r
    have := sizeE_pos x
    simp only [List.length_cons, sizeEs]
    omega
theorem lowEs_few {D B : Nat} : ∀ (l : List E) (L : List Nd), (∀ x ∈ l, ∀ L : List Nd, (∀ n ∈ L, depthE n.expr ≤ D ∧ n.inn.length ≤ B) → ∀ n ∈ (lowE L x).1, depthE n.expr ≤ D ∧ n.inn.length ≤ B) → (∀ n ∈ L, depthE n.expr ≤ D ∧ n.inn.length ≤ B) → ∀ n ∈ (lowEs L l).1, depthE n.expr ≤ D ∧ n.inn.length ≤ B
  | [], _, _, h => h
  | x :: r, L, hx, h => by
    rw [lowEs]
    exact lowEs_few r _ (fun y hy => hx y (List.mem_cons_of_mem _ hy)) (hx x List.mem_cons_self L h)
theorem low_few {D B : Nat} (hD : 1 ≤ D) (hB : 1 ≤ B) : ∀ x, sizeE x ≤ B → depthE x ≤ D → ∀ L : List Nd, (∀ n ∈ L, depthE n.expr ≤ D ∧ n.inn.length ≤ B) → ∀ n ∈ (lowE L x).1, depthE n.expr ≤ D ∧ n.inn.length ≤ B := by
  have h0 : depthE exp0 ≤ D := by rw [depthE_mk]; simp only [depthEs]; omega
  intro x
  induction x using E.ind with
  | h hd l ih =>
  intro hs hd' L hL
  have hsz : ∀ y ∈ l, sizeE y ≤ B := fun y hy => by have := sizeEs_mem hy; rw [sizeE_mk] at hs; omega
  have hdp : ∀ y ∈ l, depthE y ≤ D := fun y hy => by have := depthEs_mem hy; rw [depthE_mk] at hd'; omega
  rw [lowE_mk]
  split
  · unfold aggM
    split
    · rename_i a c r
      exact putM_all (putM_all (putM_all (putM_all hL ⟨h0, Nat.zero_le _⟩) ⟨hdp c (by simp), hB⟩) ⟨hdp a (by simp), hB⟩) ⟨h0, hB⟩
    · exact hL
  · refine putM_all (lowEs_few l L (fun y hy => ih y hy (hsz y hy) (hdp y hy)) hL) ⟨?_, ?_⟩
    · show depthE (ownM hd l).expr ≤ D
      unfold ownM
      repeat' split
      all_goals first | exact hd' | exact h0
    · rw [own_inn, lowEs_ks]
      have := len_size l
      rw [sizeE_mk] at hs
      omega
theorem raiseM_ok {g : List Nd} (hsz : g.length ≤ 1048576) (hf : ∀ n ∈ g, FitN n) (hdp : ∀ n ∈ g, depthE n.expr ≤ 1048576) (h : (raiseM g).2 = 0) : shapeC (raiseM g).1 = 0 ∧ g = graphC (raiseM g).1 ∧ Fit (raiseM g).1 := by
  have key : ∀ r, raiseM g = r → r.2 = 0 → shapeC r.1 = 0 ∧ g = graphC r.1 ∧ Fit r.1 := by
    intro r hr h
    unfold raiseM at hr
    split at hr
    · subst hr; cases h
    · rename_i st hst
      split at hr
      · subst hr; cases h
      · rename_i hne
        split at hr
        · rename_i hq
          subst hr
          refine ⟨hq.1, hq.2, ?_⟩
          obtain ⟨ss, xs⟩ := st
          have hl := (raise_at hst).2.1
          have hpos : 0 < g.length := List.length_pos_iff.2 hne
          have hxl : xs.length - 1 < xs.length := by omega
          have : xs.getLastD exp0 = xs[xs.length - 1] := by
            rw [List.getLastD_eq_getLast?, List.getLast?_eq_getElem?, List.getElem?_eq_getElem hxl]; rfl
          simp only [this]
          exact (raise_fit hsz hf hdp hst _ (List.getElem_mem hxl)).1
        · subst hr; cases h
  exact key _ rfl h
set_option linter.defProp false in
def tbN60 := (aI (aI (aI (aI (aI (aI Ty.sz3 (aI Ty.by3 Ty.ag3)) (aI (aI Ty.zr3 Ty.un3) (aI Ty.sz9 Ty.by9))) (aI (aI Ty.ag9 (aI Ty.zr9 Ty.un9)) (aI (aI Ty.sz22 Ty.by22) (aI Ty.ag22 Ty.zr22)))) (aI (aI (aI Ty.un22 (aI Ty.sz24 Ty.by24)) (aI (aI Ty.ag24 Ty.zr24) (aI Ty.fl24_0 Ty.pl24_0))) (aI (aI (aI Ty.sz28 Ty.by28) (aI Ty.ag28 Ty.zr28)) (aI (aI Ty.fl28_0 Ty.pl28_0) (aI Ty.fl28_1 Ty.pl28_1))))) (aI (aI (aI (aI Ty.fl28_2 (aI Ty.pl28_2 Ty.sz29)) (aI (aI Ty.by29 Ty.ag29) (aI Ty.zr29 Ty.un29))) (aI (aI (aI Ty.sz31 Ty.by31) (aI Ty.ag31 Ty.zr31)) (aI (aI Ty.fl31_0 Ty.pl31_0) (aI Ty.fl31_1 Ty.pl31_1)))) (aI (aI (aI Ty.sz32 (aI Ty.by32 Ty.ag32)) (aI (aI Ty.zr32 Ty.un32) (aI Ty.sz34 Ty.by34))) (aI (aI (aI Ty.ag34 Ty.zr34) (aI Ty.fl34_0 Ty.pl34_0)) (aI (aI Ty.fl34_1 Ty.pl34_1) (aI Ty.fl34_2 Ty.pl34_2)))))) (aI (aI (aI (aI (aI Ty.fl34_3 (aI Ty.pl34_3 Ty.fl34_4)) (aI (aI Ty.pl34_4 Ty.fl34_5) (aI Ty.pl34_5 Ty.fl34_6))) (aI (aI Ty.pl34_6 (aI Ty.fl34_7 Ty.pl34_7)) (aI (aI Ty.fl34_8 Ty.pl34_8) (aI Ty.sz35 Ty.by35)))) (aI (aI (aI Ty.ag35 (aI Ty.zr35 Ty.un35)) (aI (aI Ty.sz36 Ty.by36) (aI Ty.ag36 Ty.sz45))) (aI (aI (aI Ty.by45 Ty.ag45) (aI Ty.zr45 Ty.un45)) (aI (aI Ty.sz47 Ty.by47) (aI Ty.ag47 Ty.zr47))))) (aI (aI (aI (aI Ty.fl47_0 (aI Ty.pl47_0 Ty.fl47_1)) (aI (aI Ty.pl47_1 Ty.fl47_2) (aI Ty.pl47_2 Ty.fl47_3))) (aI (aI (aI Ty.pl47_3 Ty.fl47_4) (aI Ty.pl47_4 Ty.fl47_5)) (aI (aI Ty.pl47_5 Ty.fl47_6) (aI Ty.pl47_6 Ty.fl47_7)))) (aI (aI (aI Ty.pl47_7 (aI Ty.fl47_8 Ty.pl47_8)) (aI (aI Ty.sz103 Ty.by103) (aI Ty.ag103 Ty.zr103))) (aI (aI (aI Ty.fl103_0 Ty.pl103_0) (aI Ty.fl103_1 Ty.pl103_1)) (aI (aI Ty.eq28 Ty.eq31) (aI Ty.eq103 Ty.cb6)))))))
theorem check_ok (g : List Nd) (hsz : g.length ≤ 1048576) (hf : ∀ n ∈ g, FitN n) (hdp : ∀ n ∈ g, depthE n.expr ≤ 1048576) (hin : ∀ n ∈ g, n.inn.length ≤ 1048576) : OkP Tryz.prog 9 [vG g] (vint (raiseM g).2) := by
  have hr := raise_ok g hsz hf hdp hin
  refine Ok.of_ex Ty.mixed Tryz.func9 rfl (by simp [Tryz.ntmps9]) (by kernel_rfl) fun F w0 I0 => ?_
  simp only [↓rA, rB]
  refine fun b1 h1 => ?_; replace h1 := newb h1; try simp only [Nb] at h1
  simp only [↓rA, rB, Nat.reduceEqDiff, tbN60]
  refine OkF_of _ hr ?_
  simp only [↓rA, rB, Nat.reduceEqDiff, Tryz.results9]
  exact ret_done rfl
end Go.Proofs.YtphkmlogjgeipaaGreatDoor

/- Graphs that come in. -/
set_option linter.unusedSimpArgs false
set_option maxRecDepth 100000
namespace Go.Proofs.YtphkmlogjgeipaaGreatDoor
open Go.VL Go.Ar Go.Lo Go.RowKit Go.ChangeShapes Go.WideShapes Go.Proofs.YtphkmlogjgeipaaGreatDoor
theorem LeL_append : ∀ {l l' m m' : List V}, LeL l l' → LeL m m' → LeL (l ++ m) (l' ++ m')
  | _, _, _, _, .nil, h => h
  | _, _, _, _, .cons h r, h' => .cons h (LeL_append r h')
theorem bulks_app (l m : List V) : V.bulks (l ++ m) = V.bulks l + V.bulks m := by
  induction l with
  | nil => simp [V.bulks]
  | cons x l ih => simp only [List.cons_append, V.bulks, ih]; omega
def okNd (n : Nd) : Prop := FitN n ∧ depthE n.expr ≤ 1048576 ∧ n.inn.length ≤ 1048576
theorem inv_node {d : Nat} {vs : List V} (hb : V.bulks vs ≤ 1048576) (h : TV Tryz.prog d 47 vs) : ∃ n : Nd, LeL vs (cNd n) ∧ okNd n := by
  cases d with
  | zero => exact h.elim
  | succ d =>
    simp only [TV, Tryz.underlying47, TVF] at h
    obtain ⟨x1, y1, rfl, h1, x2, y2, rfl, h2, x3, y3, rfl, h3, x4, y4, rfl, h4, x5, y5, rfl, h5, x6, y6, rfl, h6, x7, y7, rfl, h7, x8, y8, rfl, h8, x9, y9, rfl, h9, rfl⟩ := h
    obtain ⟨kind, rfl⟩ := inv_int h1
    obtain ⟨table, rfl⟩ := inv_str h2
    obtain ⟨op, rfl⟩ := inv_str h4
    obtain ⟨param, rfl⟩ := inv_int h5
    obtain ⟨wk, ws, rfl⟩ := inv_win h6
    obtain ⟨val, rfl⟩ := inv_val h7
    obtain ⟨name, rfl⟩ := inv_str h8
    obtain ⟨a, d', rfl, rfl⟩ := one_slice Ty.un45 h9
    simp only [bulks_app, List.cons_append, List.nil_append, V.bulks] at hb
    obtain ⟨e, e1, e2, e3⟩ := inv_expr _ x3 (by unfold big; omega) h3
    obtain ⟨ks, k1, k2, _⟩ := inv_list (m := 1048576) Ty.un45 (by kernel_rfl : Tryz.prog.cellsOf 3 = 1) (fun n : Int => [vint n]) (fun _ => True) (fun _ => 0) (fun vs _ h => by obtain ⟨x, rfl⟩ := inv_int h; exact ⟨x, LeL.refl _, trivial, Nat.zero_le _⟩) (fun _ => Nat.succ_pos _) h9 (by omega)
    refine ⟨⟨kind, table, e, op, param, wk, ws, val, name, ks⟩, ?_, ⟨e2, by simp only; unfold big; omega⟩, by simp only; omega, by simp only; omega⟩
    have he : cNd ⟨kind, table, e, op, param, wk, ws, val, name, ks⟩ = [vint kind, vstr table] ++ (cE e ++ [vstr op, vint param, vint wk, vint ws, vint val.kind, vint val.n, vstr val.s, vstr name, vints ks]) := by rw [cNd_eq, cE_eq]; rfl
    rw [he]
    simp only [List.cons_append, List.nil_append]
    exact .cons (Le.refl _) (.cons (Le.refl _) (LeL_append e1 (.cons (Le.refl _) (.cons (Le.refl _) (.cons (Le.refl _) (.cons (Le.refl _) (.cons (Le.refl _) (.cons (Le.refl _) (.cons (Le.refl _) (.cons (Le.refl _) (.cons k1 .nil)))))))))))
theorem in_graph {d : Nat} {a : V} (h : TA Tryz.prog d 24 a) (hb : V.bulkA a ≤ 1048576) : ∃ g : List Nd, Le a (vG g) ∧ g.length ≤ 1048576 ∧ ∀ n ∈ g, okNd n := by
  unfold TA at h
  simp only [Ty.ag24] at h
  obtain ⟨vs, rfl, h⟩ := h
  cases d with
  | zero => exact h.elim
  | succ d =>
    simp only [TV, Tryz.underlying24, TVF] at h
    obtain ⟨x1, y1, rfl, h1, rfl⟩ := h
    obtain ⟨v, d', rfl, rfl⟩ := one_slice Ty.un22 h1
    have hb' : V.bulk v ≤ 1048576 := by
      have : V.bulks ([v] ++ []) ≤ 1048576 := hb
      simp only [List.cons_append, List.nil_append, V.bulks] at this
      omega
    obtain ⟨l, l1, l2, l3⟩ := inv_list (m := 1048576) Ty.un22 (by kernel_rfl : Tryz.prog.cellsOf 47 = 23) cNd okNd (fun _ => 0) (fun vs hm h => by obtain ⟨n, q1, q2⟩ := inv_node hm h; exact ⟨n, q1, q2, Nat.zero_le _⟩) (fun n => by rw [cNd_len]; decide) h1 hb'
    exact ⟨l, leAgg (.cons l1 .nil), by omega, fun n hn => (l3 n hn).1⟩
end Go.Proofs.YtphkmlogjgeipaaGreatDoor

/- Contracts of the reference's lowering, part a: a node of its own, earlier (seat of LowerMatchesRaise). -/
set_option linter.unusedSimpArgs false
set_option maxRecDepth 100000
namespace Go.Proofs.YtphkmlogjgeipaaGreatDoor
open Go.VL Go.Ar Go.Lo Go.Proofs.YtphkmlogjgeipaaGreatDoor
theorem leNd {n : Nd} {u a i : V} (hu : Le u (vFacs n.expr.hd.unit)) (ha : Le a (vEs n.expr.args)) (hi : Le i (vints n.inn)) :
    Le (.agg [vint n.kind, vstr n.table, vint n.expr.hd.kind, vstr n.expr.hd.op, vstr n.expr.hd.name, vstr n.expr.hd.table, vint n.expr.hd.val.kind, vint n.expr.hd.val.n, vstr n.expr.hd.val.s, u, vint n.expr.hd.param, vint n.expr.hd.wk, vint n.expr.hd.ws, a, vstr n.op, vint n.param, vint n.wk, vint n.ws, vint n.val.kind, vint n.val.n, vstr n.val.s, vstr n.name, i]) (.agg (cNd n)) := by
  rw [cNd_eq]
  exact leAgg (.cons (Le.refl _) (.cons (Le.refl _) (.cons (Le.refl _) (.cons (Le.refl _) (.cons (Le.refl _) (.cons (Le.refl _) (.cons (Le.refl _) (.cons (Le.refl _) (.cons (Le.refl _) (.cons hu (.cons (Le.refl _) (.cons (Le.refl _) (.cons (Le.refl _) (.cons ha (.cons (Le.refl _) (.cons (Le.refl _) (.cons (Le.refl _) (.cons (Le.refl _) (.cons (Le.refl _) (.cons (Le.refl _) (.cons (Le.refl _) (.cons (Le.refl _) (.cons hi .nil)))))))))))))))))))))))
set_option linter.defProp false in
def tbO10 := (aI (aI (aI (aI (aI (aI Ty.sz3 (aI Ty.by3 Ty.ag3)) (aI Ty.zr3 (aI Ty.un3 Ty.sz4))) (aI (aI Ty.by4 (aI Ty.ag4 Ty.zr4)) (aI Ty.un4 (aI Ty.sz9 Ty.by9)))) (aI (aI (aI Ty.ag9 (aI Ty.zr9 Ty.un9)) (aI Ty.sz28 (aI Ty.by28 Ty.ag28))) (aI (aI Ty.zr28 (aI Ty.fl28_0 Ty.pl28_0)) (aI (aI Ty.fl28_1 Ty.pl28_1) (aI Ty.fl28_2 Ty.pl28_2))))) (aI (aI (aI (aI Ty.sz29 (aI Ty.by29 Ty.ag29)) (aI Ty.zr29 (aI Ty.un29 Ty.sz31))) (aI (aI Ty.by31 (aI Ty.ag31 Ty.zr31)) (aI (aI Ty.fl31_0 Ty.pl31_0) (aI Ty.fl31_1 Ty.pl31_1)))) (aI (aI (aI Ty.sz32 (aI Ty.by32 Ty.ag32)) (aI Ty.zr32 (aI Ty.un32 Ty.sz34))) (aI (aI Ty.by34 (aI Ty.ag34 Ty.zr34)) (aI (aI Ty.fl34_0 Ty.pl34_0) (aI Ty.fl34_1 Ty.pl34_1)))))) (aI (aI (aI (aI (aI Ty.fl34_2 (aI Ty.pl34_2 Ty.fl34_3)) (aI Ty.pl34_3 (aI Ty.fl34_4 Ty.pl34_4))) (aI (aI Ty.fl34_5 (aI Ty.pl34_5 Ty.fl34_6)) (aI (aI Ty.pl34_6 Ty.fl34_7) (aI Ty.pl34_7 Ty.fl34_8)))) (aI (aI (aI Ty.pl34_8 (aI Ty.sz45 Ty.by45)) (aI Ty.ag45 (aI Ty.zr45 Ty.un45))) (aI (aI Ty.sz47 (aI Ty.by47 Ty.ag47)) (aI (aI Ty.zr47 Ty.fl47_0) (aI Ty.pl47_0 Ty.fl47_1))))) (aI (aI (aI (aI Ty.pl47_1 (aI Ty.fl47_2 Ty.pl47_2)) (aI Ty.fl47_3 (aI Ty.pl47_3 Ty.fl47_4))) (aI (aI Ty.pl47_4 (aI Ty.fl47_5 Ty.pl47_5)) (aI (aI Ty.fl47_6 Ty.pl47_6) (aI Ty.fl47_7 Ty.pl47_7)))) (aI (aI (aI Ty.fl47_8 (aI Ty.pl47_8 Ty.sz103)) (aI Ty.by103 (aI Ty.ag103 Ty.zr103))) (aI (aI Ty.fl103_0 (aI Ty.pl103_0 Ty.fl103_1)) (aI (aI Ty.pl103_1 Ty.eq28) (aI Ty.eq31 Ty.eq103)))))))
theorem ownR_ok (h : Hd) (l : List E) : OkP Tryz.prog 59 [vE (.mk h l)] (.agg (cNd (ownM h l))) := by
  have fin : ∀ (n : Nd) (u a i : V) (X : List (Nat × B)) (Y : List Row), ownM h l = n → Le u (vFacs n.expr.hd.unit) → Le a (vEs n.expr.args) → Le i (vints n.inn) →
      ∃ v bs' rs', Le (.agg [vint n.kind, vstr n.table, vint n.expr.hd.kind, vstr n.expr.hd.op, vstr n.expr.hd.name, vstr n.expr.hd.table, vint n.expr.hd.val.kind, vint n.expr.hd.val.n, vstr n.expr.hd.val.s, u, vint n.expr.hd.param, vint n.expr.hd.wk, vint n.expr.hd.ws, a, vstr n.op, vint n.param, vint n.wk, vint n.ws, vint n.val.kind, vint n.val.n, vstr n.val.s, vstr n.name, i]) v ∧ bs'.Sublist X ∧ rs'.Sublist Y ∧ v = .agg (cNd (ownM h l)) ∧ bs' = [] ∧ rs' = [] := fun n u a i X Y hn hu ha hi =>
    ⟨_, [], [], leNd hu ha hi, List.nil_sublist _, List.nil_sublist _, by rw [hn], rfl, rfl⟩
  have z2 := Le.nil 2
  have z12 := Le.nil 12
  have z1 := Le.nil 1
  rw [vE, cE_mk]
  refine Ok.of_ex Ty.mixed Tryz.func59 rfl (by simp [Tryz.ntmps59]) (by kernel_rfl) fun F w0 I0 => ?_
  simp only [↓rA, rB]
  refine fun b1 h1 => ?_; replace h1 := newb h1; try simp only [Nb] at h1
  simp only [↓rA, rB, tbO10]
  refine fun b2 h2 => ?_; replace h2 := newb h2; try simp only [Nb] at h2
  by_cases e1 : h.kind = 1
  · obtain ⟨k, op, na, ta, va, un, pa, wk, ws⟩ := h
    obtain rfl : k = 1 := e1
    simp only [↓rA, rB, Nat.reduceAdd, Nat.reduceEqDiff, Nat.reduceLeDiff, tbO10, Tryz.results59, h2]
    exact fin { nd0 5 with val := va, expr := .mk ⟨1, op, na, ta, va, un, pa, wk, ws⟩ l } _ _ _ _ _ (by simp [ownM]) (Le.refl _) (Le.refl _) z1
  by_cases e3 : h.kind = 3
  · simp only [↓rA, rB, Int.reduceEq, Nat.reduceAdd, Nat.reduceEqDiff, Nat.reduceLeDiff, tbO10, Tryz.results59, h2, e3]
    exact fin { nd0 6 with name := h.name } _ _ _ _ _ (by simp [ownM, e3]) z2 z12 z1
  by_cases e4 : h.kind = 4
  · simp only [↓rA, rB, Int.reduceEq, Nat.reduceAdd, Nat.reduceEqDiff, Nat.reduceLeDiff, tbO10, Tryz.results59, h2, e4]
    exact fin { nd0 7 with name := h.name } _ _ _ _ _ (by simp [ownM, e4]) z2 z12 z1
  by_cases e8 : h.kind = 8
  · simp only [↓rA, rB, Int.reduceEq, Nat.reduceAdd, Nat.reduceEqDiff, Nat.reduceLeDiff, tbO10, Tryz.results59, h2, e8]
    exact fin { nd0 8 with op := sIf } _ _ _ _ _ (by simp [ownM, e8]) z2 z12 z1
  by_cases e9 : h.kind = 9
  · simp only [↓rA, rB, Int.reduceEq, Nat.reduceAdd, Nat.reduceEqDiff, Nat.reduceLeDiff, tbO10, Tryz.results59, h2, e9]
    exact fin { nd0 8 with op := sDefault } _ _ _ _ _ (by simp [ownM, e9]) z2 z12 z1
  simp only [↓rA, rB, Nat.reduceAdd, Nat.reduceEqDiff, Nat.reduceLeDiff, tbO10, Tryz.results59, h2, e1, e3, e4, e8, e9]
  exact fin { nd0 8 with op := h.op } _ _ _ _ _ (by simp [ownM, e1, e3, e4, e8, e9]) z2 z12 z1
/-- Each node's uses are of earlier nodes. -/
noncomputable def earlierB (g : List Nd) : Bool := @decide (WF g) (Classical.propDecidable _)
theorem earlier_t {g : List Nd} (h : WF g) : earlierB g = true := by unfold earlierB; exact @decide_eq_true _ (Classical.propDecidable _) h
theorem earlier_f {g : List Nd} (h : ¬ WF g) : earlierB g = false := by unfold earlierB; exact @decide_eq_false _ (Classical.propDecidable _) h
theorem earlier_iff {g : List Nd} : earlierB g = true ↔ WF g := ⟨fun h => Classical.byContradiction fun hn => (by rw [earlier_f hn] at h; cases h), earlier_t⟩
set_option linter.defProp false in
def tbO11 := (aI (aI (aI (aI (aI (aI Ty.sz3 (aI Ty.by3 Ty.ag3)) (aI (aI Ty.zr3 Ty.un3) (aI Ty.sz4 Ty.by4))) (aI (aI Ty.ag4 (aI Ty.zr4 Ty.un4)) (aI (aI Ty.sz9 Ty.by9) (aI Ty.ag9 Ty.zr9)))) (aI (aI (aI Ty.un9 (aI Ty.sz22 Ty.by22)) (aI (aI Ty.ag22 Ty.zr22) (aI Ty.un22 Ty.sz24))) (aI (aI Ty.by24 (aI Ty.ag24 Ty.zr24)) (aI (aI Ty.fl24_0 Ty.pl24_0) (aI Ty.sz28 Ty.by28))))) (aI (aI (aI (aI Ty.ag28 (aI Ty.zr28 Ty.fl28_0)) (aI (aI Ty.pl28_0 Ty.fl28_1) (aI Ty.pl28_1 Ty.fl28_2))) (aI (aI Ty.pl28_2 (aI Ty.sz29 Ty.by29)) (aI (aI Ty.ag29 Ty.zr29) (aI Ty.un29 Ty.sz31)))) (aI (aI (aI Ty.by31 (aI Ty.ag31 Ty.zr31)) (aI (aI Ty.fl31_0 Ty.pl31_0) (aI Ty.fl31_1 Ty.pl31_1))) (aI (aI (aI Ty.sz32 Ty.by32) (aI Ty.ag32 Ty.zr32)) (aI (aI Ty.un32 Ty.sz34) (aI Ty.by34 Ty.ag34)))))) (aI (aI (aI (aI (aI Ty.zr34 (aI Ty.fl34_0 Ty.pl34_0)) (aI (aI Ty.fl34_1 Ty.pl34_1) (aI Ty.fl34_2 Ty.pl34_2))) (aI (aI Ty.fl34_3 (aI Ty.pl34_3 Ty.fl34_4)) (aI (aI Ty.pl34_4 Ty.fl34_5) (aI Ty.pl34_5 Ty.fl34_6)))) (aI (aI (aI Ty.pl34_6 (aI Ty.fl34_7 Ty.pl34_7)) (aI (aI Ty.fl34_8 Ty.pl34_8) (aI Ty.sz45 Ty.by45))) (aI (aI Ty.ag45 (aI Ty.zr45 Ty.un45)) (aI (aI Ty.sz47 Ty.by47) (aI Ty.ag47 Ty.zr47))))) (aI (aI (aI (aI Ty.fl47_0 (aI Ty.pl47_0 Ty.fl47_1)) (aI (aI Ty.pl47_1 Ty.fl47_2) (aI Ty.pl47_2 Ty.fl47_3))) (aI (aI Ty.pl47_3 (aI Ty.fl47_4 Ty.pl47_4)) (aI (aI Ty.fl47_5 Ty.pl47_5) (aI Ty.fl47_6 Ty.pl47_6)))) (aI (aI (aI Ty.fl47_7 (aI Ty.pl47_7 Ty.fl47_8)) (aI (aI Ty.pl47_8 Ty.sz103) (aI Ty.by103 Ty.ag103))) (aI (aI (aI Ty.zr103 Ty.fl103_0) (aI Ty.pl103_0 Ty.fl103_1)) (aI (aI Ty.pl103_1 Ty.eq28) (aI Ty.eq31 Ty.eq103)))))))
theorem earlier_ok (g : List Nd) (hsz : g.length ≤ 1048576) (hin : ∀ n ∈ g, n.inn.length ≤ 1048576) : OkP Tryz.prog 21 [vG g] (vbool (earlierB g)) := by
  have fb : ∀ {a b : Bool}, a = b → V.lit (.bool a) = vbool b := fun h => by rw [h]
  refine Ok.of_ex Ty.mixed Tryz.func21 rfl (by simp [Tryz.ntmps21]) (by kernel_rfl) fun F w0 I0 => ?_
  simp only [↓rA, rB]
  refine fun b1 h1 => ?_; replace h1 := newb h1; try simp only [Nb] at h1
  simp only [↓rA, rB, Tryz.results21]
  refine EX_for Ty.mixed (by kernel_rfl) g.length (fun i S => (∀ j (h : j < g.length), j < i → ∀ t ∈ g[j].inn, 0 ≤ t ∧ t < j) ∧ S.boxes = [(b1, .c [vNds g])] ∧ S.rows = [] ∧ S.σ 1 = ptr b1 ∧ S.σ 3 = vint i) ⟨0, ?_⟩ (fun i S hi ⟨hwf, gb, gr, g1, g3⟩ => ?_) (fun S ⟨hwf, gb, gr, g1, g3⟩ => ?_)
  · simp only [rB, Nat.reduceEqDiff]
    first | exact ⟨fun j _ h => absurd h (Nat.not_lt_zero j), rfl⟩ | exact fun j _ h => absurd h (Nat.not_lt_zero j)
  · have hwi := wrap_succ (i := i) (N := g.length) hi (by omega)
    have hinl := hin _ (List.getElem_mem hi)
    simp only [↓rA, rB, Nat.reduceAdd, Nat.reduceEqDiff, tbO11, gb, g1, g3, Int.ofNat_lt, hi, List.length_map]
    refine EX_for Ty.mixed (by kernel_rfl) g[i].inn.length (fun k S => okIn i (g[i].inn.take k) = true ∧ S.boxes = [(b1, .c [vNds g])] ∧ S.rows = [] ∧ S.σ 1 = ptr b1 ∧ S.σ 3 = vint i ∧ S.σ 4 = vint k) ⟨0, ?_⟩ (fun k S hk ⟨hok, gb, gr, g1, g3, g4⟩ => ?_) (fun S ⟨hok, gb, gr, g1, g3, g4⟩ => ?_)
    · simp only [rB, Nat.reduceEqDiff, gb, gr, g1, g3]
      first | exact rfl | exact ⟨rfl, rfl⟩
    · have hwk := wrap_succ (i := k) (N := g[i].inn.length) hk (by omega)
      have bad : ¬ (0 ≤ g[i].inn[k] ∧ g[i].inn[k] < i) → earlierB g = false := fun h => earlier_f fun hw => h (hw i hi _ (List.getElem_mem hk))
      by_cases t1 : g[i].inn[k] < 0
      · simp only [↓rA, rB, Nat.reduceAdd, Nat.reduceEqDiff, tbO11, gb, gr, g1, g3, g4, Int.ofNat_lt, hi, hk, List.length_map, getD_map _ _ _ hi, getD_map _ _ _ hk, cNd_eq, t1]
        exact ret_done (fb (bad fun h => by omega).symm)
      by_cases t2 : (i : Int) ≤ g[i].inn[k]
      · simp only [↓rA, rB, Nat.reduceAdd, Nat.reduceEqDiff, tbO11, gb, gr, g1, g3, g4, Int.ofNat_lt, hi, hk, List.length_map, getD_map _ _ _ hi, getD_map _ _ _ hk, cNd_eq, t1, t2]
        exact ret_done (fb (bad fun h => by omega).symm)
      simp only [↓rA, rB, Nat.reduceAdd, Nat.reduceEqDiff, tbO11, gb, gr, g1, g3, g4, Int.ofNat_lt, hi, hk, List.length_map, getD_map _ _ _ hi, getD_map _ _ _ hk, cNd_eq, t1, t2, hwk]
      refine ⟨0, ?_, rfl⟩
      refine okIn_iff.2 fun t ht => ?_
      rw [List.take_succ_eq_append_getElem hk] at ht
      rcases List.mem_append.1 ht with ht | ht
      · exact okIn_iff.1 hok t ht
      · obtain rfl := List.mem_singleton.1 ht
        omega
    · rw [List.take_of_length_le (Nat.le_refl _)] at hok
      simp only [↓rA, rB, Nat.reduceAdd, Nat.reduceEqDiff, tbO11, gb, gr, g1, g3, g4, Int.ofNat_lt, hi, Nat.lt_irrefl, List.length_map, getD_map _ _ _ hi, cNd_eq, hwi]
      refine ⟨0, fun j h hj => ?_, rfl⟩
      rcases Nat.lt_or_ge j i with h' | h'
      · exact hwf j h h'
      · have : j = i := by omega
        subst this
        exact okIn_iff.1 hok
  · simp only [↓rA, rB, Nat.reduceAdd, Nat.reduceEqDiff, tbO11, gb, gr, g1, g3, Int.ofNat_lt, Nat.lt_irrefl, List.length_map]
    exact ret_done (fb (earlier_t fun i hi => hwf i hi hi).symm)
end Go.Proofs.YtphkmlogjgeipaaGreatDoor

/- Contracts of the reference's lowering, part b: sizes of expressions, one node is raised (seat of LowerMatchesRaise). -/
set_option linter.unusedSimpArgs false
set_option maxRecDepth 100000
namespace Go.Lo
open Go.VL Go.Ar
/-- The reference's raising of one node but for a chain: the head, and whether it may stand with k operands. -/
def rawM (n : Nd) (k : Nat) : E × Bool :=
  if n.kind = 5 then (n.expr, decide (k = 0))
  else if n.kind = 6 then (.mk { hd0 3 with name := n.name } [], decide (k = 0))
  else if n.kind = 7 then (.mk { hd0 4 with name := n.name } [], decide (k = 1))
  else if n.kind = 8 then
    if n.op = sIf ∧ k = 3 then (.mk (hd0 8) [], true)
    else if n.op = sDefault ∧ k = 2 then (.mk (hd0 9) [], true)
    else if k = 1 then (.mk { hd0 6 with op := n.op } [], true)
    else (.mk { hd0 7 with op := n.op } [], decide (k = 2))
  else (.mk (hd0 0) [], false)
end Go.Lo
namespace Go.Proofs.YtphkmlogjgeipaaGreatDoor
open Go.VL Go.Ar Go.Lo Go.Proofs.YtphkmlogjgeipaaGreatDoor
set_option linter.defProp false in
def tbO20 := (aI (aI (aI (aI (aI (aI Ty.sz3 Ty.by3) (aI Ty.ag3 Ty.zr3)) (aI (aI Ty.un3 Ty.sz4) (aI Ty.by4 (aI Ty.ag4 Ty.zr4)))) (aI (aI (aI Ty.un4 Ty.sz9) (aI Ty.by9 (aI Ty.ag9 Ty.zr9))) (aI (aI Ty.un9 Ty.sz28) (aI Ty.by28 (aI Ty.ag28 Ty.zr28))))) (aI (aI (aI (aI Ty.fl28_0 Ty.pl28_0) (aI Ty.fl28_1 Ty.pl28_1)) (aI (aI Ty.fl28_2 Ty.pl28_2) (aI Ty.sz29 (aI Ty.by29 Ty.ag29)))) (aI (aI (aI Ty.zr29 Ty.un29) (aI Ty.sz31 (aI Ty.by31 Ty.ag31))) (aI (aI Ty.zr31 Ty.fl31_0) (aI Ty.pl31_0 (aI Ty.fl31_1 Ty.pl31_1)))))) (aI (aI (aI (aI (aI Ty.sz32 Ty.by32) (aI Ty.ag32 Ty.zr32)) (aI (aI Ty.un32 Ty.sz34) (aI Ty.by34 (aI Ty.ag34 Ty.zr34)))) (aI (aI (aI Ty.fl34_0 Ty.pl34_0) (aI Ty.fl34_1 (aI Ty.pl34_1 Ty.fl34_2))) (aI (aI Ty.pl34_2 Ty.fl34_3) (aI Ty.pl34_3 (aI Ty.fl34_4 Ty.pl34_4))))) (aI (aI (aI (aI Ty.fl34_5 Ty.pl34_5) (aI Ty.fl34_6 (aI Ty.pl34_6 Ty.fl34_7))) (aI (aI Ty.pl34_7 Ty.fl34_8) (aI Ty.pl34_8 (aI Ty.sz103 Ty.by103)))) (aI (aI (aI Ty.ag103 Ty.zr103) (aI Ty.fl103_0 (aI Ty.pl103_0 Ty.fl103_1))) (aI (aI Ty.pl103_1 Ty.eq28) (aI Ty.eq31 (aI Ty.eq103 Ty.cb56)))))))
theorem depthR_ok : ∀ x : E, Fit x → depthE x ≤ big → OkP Tryz.prog 56 [vE x] (vint (depthE x)) := by
  intro x
  induction x using E.ind with
  | h hd l ih =>
    intro hf hb
    have hl := hf.len
    have ha := hf.args
    simp only [E.args, big] at hl ha
    rw [depthE_mk] at hb
    unfold big at hb
    rw [vE, cE_mk]
    refine Ok.of_ex Ty.mixed Tryz.func56 rfl (by simp [Tryz.ntmps56]) (by kernel_rfl) fun F w0 I0 => ?_
    simp only [↓rA, rB]
    refine fun b1 h1 => ?_; replace h1 := newb h1; try simp only [Nb] at h1
    simp only [↓rA, rB, Tryz.results56]
    refine EX_for Ty.mixed (by kernel_rfl) l.length (fun i S => S.boxes = [(b1, .c (cH hd (vEs l)))] ∧ S.rows = [] ∧ S.σ 1 = ptr b1 ∧ S.σ 3 = vint (depthEs (l.take i)) ∧ S.σ 4 = vint i) ⟨0, ?_⟩ (fun i S hi ⟨gb, gr, g1, g3, g4⟩ => ?_) (fun S ⟨gb, gr, g1, g3, g4⟩ => ?_)
    · simp only [rB, Nat.reduceEqDiff]
      first | exact rfl | exact ⟨rfl, rfl⟩
    · have hwi := wrap_succ (i := i) (N := l.length) hi (by omega)
      have hx := List.getElem_mem hi
      have hd := depthEs_mem hx
      have hc := ih l[i] hx (ha _ hx) (by unfold big; omega)
      rw [vE, cE_eq] at hc
      simp only [↓rA, rB, Nat.reduceAdd, Nat.reduceEqDiff, tbO20, gb, g1, g3, g4, Int.ofNat_lt, hi, List.length_map, getD_map _ _ _ hi, cE_eq]
      refine OkF_of _ hc ?_
      simp only [↓rA, rB, Nat.reduceEqDiff, gr, g1, g4, hwi]
      refine ⟨0, rfl, ?_⟩
      rw [List.take_succ_eq_append_getElem hi, depthEs_append]
      exact congrArg (fun n => V.lit (.int .i64 n)) (by simp only [depthEs]; split <;> omega)
    · simp only [↓rA, rB, Nat.reduceAdd, Nat.reduceEqDiff, tbO20, gb, gr, g1, g3, g4, Int.ofNat_lt, Nat.lt_irrefl, List.length_map]
      refine ret_done ?_
      rw [depthE_mk, List.take_of_length_le (Nat.le_refl _), wrap_id (by omega) (by omega)]
      exact rfl
set_option linter.defProp false in
def tbO21 := (aI (aI (aI (aI (aI (aI Ty.sz3 (aI Ty.by3 Ty.ag3)) (aI Ty.zr3 (aI Ty.un3 Ty.sz4))) (aI (aI Ty.by4 (aI Ty.ag4 Ty.zr4)) (aI Ty.un4 (aI Ty.sz9 Ty.by9)))) (aI (aI (aI Ty.ag9 (aI Ty.zr9 Ty.un9)) (aI Ty.sz28 (aI Ty.by28 Ty.ag28))) (aI (aI Ty.zr28 (aI Ty.fl28_0 Ty.pl28_0)) (aI (aI Ty.fl28_1 Ty.pl28_1) (aI Ty.fl28_2 Ty.pl28_2))))) (aI (aI (aI (aI Ty.sz29 (aI Ty.by29 Ty.ag29)) (aI Ty.zr29 (aI Ty.un29 Ty.sz31))) (aI (aI Ty.by31 (aI Ty.ag31 Ty.zr31)) (aI (aI Ty.fl31_0 Ty.pl31_0) (aI Ty.fl31_1 Ty.pl31_1)))) (aI (aI (aI Ty.sz32 (aI Ty.by32 Ty.ag32)) (aI Ty.zr32 (aI Ty.un32 Ty.sz34))) (aI (aI Ty.by34 (aI Ty.ag34 Ty.zr34)) (aI (aI Ty.fl34_0 Ty.pl34_0) (aI Ty.fl34_1 Ty.pl34_1)))))) (aI (aI (aI (aI (aI Ty.fl34_2 (aI Ty.pl34_2 Ty.fl34_3)) (aI Ty.pl34_3 (aI Ty.fl34_4 Ty.pl34_4))) (aI (aI Ty.fl34_5 (aI Ty.pl34_5 Ty.fl34_6)) (aI (aI Ty.pl34_6 Ty.fl34_7) (aI Ty.pl34_7 Ty.fl34_8)))) (aI (aI (aI Ty.pl34_8 (aI Ty.sz45 Ty.by45)) (aI Ty.ag45 (aI Ty.zr45 Ty.un45))) (aI (aI Ty.sz47 (aI Ty.by47 Ty.ag47)) (aI (aI Ty.zr47 Ty.fl47_0) (aI Ty.pl47_0 Ty.fl47_1))))) (aI (aI (aI (aI Ty.pl47_1 (aI Ty.fl47_2 Ty.pl47_2)) (aI Ty.fl47_3 (aI Ty.pl47_3 Ty.fl47_4))) (aI (aI Ty.pl47_4 (aI Ty.fl47_5 Ty.pl47_5)) (aI (aI Ty.fl47_6 Ty.pl47_6) (aI Ty.fl47_7 Ty.pl47_7)))) (aI (aI (aI Ty.fl47_8 (aI Ty.pl47_8 Ty.sz103)) (aI Ty.by103 (aI Ty.ag103 Ty.zr103))) (aI (aI Ty.fl103_0 (aI Ty.pl103_0 Ty.fl103_1)) (aI (aI Ty.pl103_1 Ty.eq28) (aI Ty.eq31 Ty.eq103)))))))
theorem raiseR_ok (n : Nd) (hl : n.inn.length ≤ 1048576) : OkP Tryz.prog 39 [.agg (cNd n)] (.tup [vE (rawM n n.inn.length).1, vbool (rawM n n.inn.length).2]) := by
  have fin : ∀ (h : Hd) (u a : V) (b : Bool) (X : List (Nat × B)) (Y : List Row), h.unit = [] → Le u (.list none 2 []) → Le a (vEs []) → rawM n n.inn.length = (.mk h [], b) →
      ∃ v bs' rs', Le (.tup [.agg [vint h.kind, vstr h.op, vstr h.name, vstr h.table, vint h.val.kind, vint h.val.n, vstr h.val.s, u, vint h.param, vint h.wk, vint h.ws, a], .lit (.bool b)]) v ∧ bs'.Sublist X ∧ rs'.Sublist Y ∧ v = .tup [vE (rawM n n.inn.length).1, vbool (rawM n n.inn.length).2] ∧ bs' = [] ∧ rs' = [] := by
    intro h u a b X Y hu hlu hla hM
    refine ⟨_, [], [], leTup (.cons (leE (h := h) (l := []) ?_ hla) (.cons (Le.refl _) .nil)), List.nil_sublist _, List.nil_sublist _, by rw [hM], rfl, rfl⟩
    rw [hu]
    exact hlu
  have z2 := Le.nil 2
  have z12 := Le.nil 12
  simp only [cNd_eq n]
  refine Ok.of_ex Ty.mixed Tryz.func39 rfl (by simp [Tryz.ntmps39]) (by kernel_rfl) fun F w0 I0 => ?_
  simp only [↓rA, rB]
  refine fun b1 h1 => ?_; replace h1 := newb h1; try simp only [Nb] at h1
  simp only [↓rA, rB, tbO21]
  refine fun b2 h2 => ?_; replace h2 := newb h2; try simp only [Nb] at h2
  by_cases e5 : n.kind = 5
  · by_cases k0 : n.inn.length = 0
    · have k0' : (n.inn.length : Int) = 0 := by omega
      rw [show rawM n n.inn.length = (n.expr, true) by simp [rawM, e5, k0]]
      simp only [vE, cE_eq]
      simp only [↓rA, rB, Nat.reduceAdd, Nat.reduceEqDiff, Nat.reduceLeDiff, tbO21, Tryz.results39, h2, e5, List.length_map, k0']
      exact ret_done rfl
    · have k0' : ¬ (n.inn.length : Int) = 0 := by omega
      rw [show rawM n n.inn.length = (n.expr, false) by simp [rawM, e5, k0]]
      simp only [vE, cE_eq]
      simp only [↓rA, rB, Nat.reduceAdd, Nat.reduceEqDiff, Nat.reduceLeDiff, tbO21, Tryz.results39, h2, e5, List.length_map, k0']
      exact ret_done rfl
  by_cases e6 : n.kind = 6
  · by_cases k0 : n.inn.length = 0
    · have k0' : (n.inn.length : Int) = 0 := by omega
      simp only [↓rA, rB, Int.reduceEq, Nat.reduceAdd, Nat.reduceEqDiff, Nat.reduceLeDiff, tbO21, Tryz.results39, h2, e6, List.length_map, k0']
      exact fin { hd0 3 with name := n.name } _ _ true _ _ rfl z2 z12 (by simp [rawM, e6, k0])
    · have k0' : ¬ (n.inn.length : Int) = 0 := by omega
      simp only [↓rA, rB, Int.reduceEq, Nat.reduceAdd, Nat.reduceEqDiff, Nat.reduceLeDiff, tbO21, Tryz.results39, h2, e6, List.length_map, k0']
      exact fin { hd0 3 with name := n.name } _ _ false _ _ rfl z2 z12 (by simp [rawM, e6, k0])
  by_cases e7 : n.kind = 7
  · by_cases k0 : n.inn.length = 1
    · have k0' : (n.inn.length : Int) = 1 := by omega
      simp only [↓rA, rB, Int.reduceEq, Nat.reduceAdd, Nat.reduceEqDiff, Nat.reduceLeDiff, tbO21, Tryz.results39, h2, e7, List.length_map, k0']
      exact fin { hd0 4 with name := n.name } _ _ true _ _ rfl z2 z12 (by simp [rawM, e7, k0])
    · have k0' : ¬ (n.inn.length : Int) = 1 := by omega
      simp only [↓rA, rB, Int.reduceEq, Nat.reduceAdd, Nat.reduceEqDiff, Nat.reduceLeDiff, tbO21, Tryz.results39, h2, e7, List.length_map, k0']
      exact fin { hd0 4 with name := n.name } _ _ false _ _ rfl z2 z12 (by simp [rawM, e7, k0])
  by_cases e8 : n.kind = 8
  case neg =>
    simp only [↓rA, rB, Nat.reduceAdd, Nat.reduceEqDiff, tbO21, Tryz.results39, h2, e5, e6, e7, e8]
    exact fin (hd0 0) _ _ false _ _ rfl z2 z12 (by simp [rawM, e5, e6, e7, e8])
  have sd : ¬ sIf = sDefault := by decide
  by_cases k3 : n.op = sIf ∧ n.inn.length = 3
  · have k3' : (n.inn.length : Int) = 3 := by omega
    have o1 : n.op = ({ data := #[105, 102] } : ByteArray) := k3.1
    simp only [↓rA, rB, Int.reduceEq, Nat.reduceAdd, Nat.reduceEqDiff, Nat.reduceLeDiff, tbO21, Tryz.results39, h2, e8, List.length_map, k3', o1]
    exact fin (hd0 8) _ _ true _ _ rfl z2 z12 (by simp [rawM, e8, k3])
  have dn : ¬ (({ data := #[100, 101, 102, 97, 117, 108, 116] } : ByteArray) = { data := #[105, 102] }) := by decide
  have dn' : ¬ (({ data := #[105, 102] } : ByteArray) = { data := #[100, 101, 102, 97, 117, 108, 116] }) := by decide
  by_cases kd : n.op = sDefault ∧ n.inn.length = 2
  · have k2' : (n.inn.length : Int) = 2 := by omega
    have o2 : n.op = ({ data := #[100, 101, 102, 97, 117, 108, 116] } : ByteArray) := kd.1
    have n22 : ¬ ((2 : Int) = 3) := by decide
    simp only [↓rA, rB, Int.reduceEq, Nat.reduceAdd, Nat.reduceEqDiff, Nat.reduceLeDiff, tbO21, Tryz.results39, h2, e8, List.length_map, k2', o2, dn]
    exact fin (hd0 9) _ _ true _ _ rfl z2 z12 (by simp [rawM, e8, kd])
  have hraw : ∀ r : E × Bool, (if n.inn.length = 1 then (E.mk { hd0 6 with op := n.op } [], true) else (E.mk { hd0 7 with op := n.op } [], decide (n.inn.length = 2))) = r → rawM n n.inn.length = r := fun r h => by
    rw [← h, rawM, if_neg e5, if_neg e6, if_neg e7, if_pos e8, if_neg k3, if_neg kd]
  by_cases oi : n.op = ({ data := #[105, 102] } : ByteArray)
  · have n3 : ¬ (n.inn.length : Int) = 3 := fun h => k3 ⟨oi, by omega⟩
    by_cases k1 : n.inn.length = 1
    · have k1' : (n.inn.length : Int) = 1 := by omega
      have n12 : ¬ ((1 : Int) = 3) := by decide
      have n13 : ¬ ((1 : Int) = 2) := by decide
      simp only [↓rA, rB, Int.reduceEq, Nat.reduceAdd, Nat.reduceEqDiff, Nat.reduceLeDiff, tbO21, Tryz.results39, h2, e8, List.length_map, k1', n12, oi, dn']
      exact fin { hd0 6 with op := sIf } _ _ true _ _ rfl z2 z12 (hraw _ (by rw [if_pos k1, oi]))
    have k1' : ¬ (n.inn.length : Int) = 1 := by omega
    by_cases k2 : n.inn.length = 2
    · have k2' : (n.inn.length : Int) = 2 := by omega
      have n22 : ¬ ((2 : Int) = 3) := by decide
      have n21 : ¬ ((2 : Int) = 1) := by decide
      simp only [↓rA, rB, Int.reduceEq, Nat.reduceAdd, Nat.reduceEqDiff, Nat.reduceLeDiff, tbO21, Tryz.results39, h2, e8, List.length_map, k2', n22, n21, oi, dn']
      exact fin { hd0 7 with op := sIf } _ _ true _ _ rfl z2 z12 (hraw _ (by rw [if_neg k1, oi, decide_eq_true k2]))
    · have k2' : ¬ (n.inn.length : Int) = 2 := by omega
      simp only [↓rA, rB, Int.reduceEq, Nat.reduceAdd, Nat.reduceEqDiff, Nat.reduceLeDiff, tbO21, Tryz.results39, h2, e8, List.length_map, n3, k1', k2', oi, dn']
      exact fin { hd0 7 with op := sIf } _ _ false _ _ rfl z2 z12 (hraw _ (by rw [if_neg k1, oi, decide_eq_false k2]))
  by_cases od : n.op = ({ data := #[100, 101, 102, 97, 117, 108, 116] } : ByteArray)
  · have n2 : ¬ (n.inn.length : Int) = 2 := fun h => kd ⟨od, by omega⟩
    have k2 : ¬ n.inn.length = 2 := by omega
    by_cases k1 : n.inn.length = 1
    · have k1' : (n.inn.length : Int) = 1 := by omega
      have n13 : ¬ ((1 : Int) = 2) := by decide
      simp only [↓rA, rB, Int.reduceEq, Nat.reduceAdd, Nat.reduceEqDiff, Nat.reduceLeDiff, tbO21, Tryz.results39, h2, e8, List.length_map, k1', n13, od, dn]
      exact fin { hd0 6 with op := sDefault } _ _ true _ _ rfl z2 z12 (hraw _ (by rw [if_pos k1, od]))
    have k1' : ¬ (n.inn.length : Int) = 1 := by omega
    simp only [↓rA, rB, Int.reduceEq, Nat.reduceAdd, Nat.reduceEqDiff, Nat.reduceLeDiff, tbO21, Tryz.results39, h2, e8, List.length_map, k1', n2, od, dn]
    exact fin { hd0 7 with op := sDefault } _ _ false _ _ rfl z2 z12 (hraw _ (by rw [if_neg k1, od, decide_eq_false k2]))
  by_cases k1 : n.inn.length = 1
  · have k1' : (n.inn.length : Int) = 1 := by omega
    simp only [↓rA, rB, Int.reduceEq, Nat.reduceAdd, Nat.reduceEqDiff, Nat.reduceLeDiff, tbO21, Tryz.results39, h2, e8, List.length_map, k1', oi, od]
    exact fin { hd0 6 with op := n.op } _ _ true _ _ rfl z2 z12 (hraw _ (by rw [if_pos k1]))
  have k1' : ¬ (n.inn.length : Int) = 1 := by omega
  by_cases k2 : n.inn.length = 2
  · have k2' : (n.inn.length : Int) = 2 := by omega
    have n21 : ¬ ((2 : Int) = 1) := by decide
    simp only [↓rA, rB, Int.reduceEq, Nat.reduceAdd, Nat.reduceEqDiff, Nat.reduceLeDiff, tbO21, Tryz.results39, h2, e8, List.length_map, k2', n21, oi, od]
    exact fin { hd0 7 with op := n.op } _ _ true _ _ rfl z2 z12 (hraw _ (by rw [if_neg k1, decide_eq_true k2]))
  · have k2' : ¬ (n.inn.length : Int) = 2 := by omega
    simp only [↓rA, rB, Int.reduceEq, Nat.reduceAdd, Nat.reduceEqDiff, Nat.reduceLeDiff, tbO21, Tryz.results39, h2, e8, List.length_map, k1', k2', oi, od]
    exact fin { hd0 7 with op := n.op } _ _ false _ _ rfl z2 z12 (hraw _ (by rw [if_neg k1, decide_eq_false k2]))
end Go.Proofs.YtphkmlogjgeipaaGreatDoor

/- Contracts of the reference's checks, part d: expressions of proper form. -/
set_option linter.unusedSimpArgs false
set_option maxRecDepth 100000
namespace Go.Proofs.YtphkmlogjgeipaaGreatDoor
open Go.VL Go.Ar Go.Lo Go.Proofs.YtphkmlogjgeipaaGreatDoor
set_option linter.defProp false in
def tbOA0 := (aI (aI (aI (aI Ty.sz3 Ty.by3) (aI Ty.ag3 (aI Ty.zr3 Ty.un3))) (aI (aI Ty.sz4 Ty.by4) (aI Ty.ag4 (aI Ty.zr4 Ty.un4)))) (aI (aI (aI Ty.sz9 Ty.by9) (aI Ty.ag9 (aI Ty.zr9 Ty.un9))) (aI (aI Ty.sz78 Ty.by78) (aI Ty.ag78 (aI Ty.zr78 Ty.un78)))))
theorem one_ok (l : List Str) (s : Str) (hl : l.length ≤ 1000000) : OkP Tryz.prog 83 [vstr s, vstrs l] (vbool (memS l s)) := by
  have fb : ∀ {a b : Bool}, a = b → V.lit (.bool a) = vbool b := fun h => by rw [h]
  refine Ok.of_ex Ty.mixed Tryz.func83 rfl (by simp [Tryz.ntmps83]) (by kernel_rfl) fun F w0 I0 => ?_
  simp only [↓rA, rB, Tryz.results83]
  refine EX_for Ty.mixed (by kernel_rfl) l.length (fun i S => memS (l.take i) s = false ∧ S.boxes = [] ∧ S.rows = [] ∧ S.σ 0 = vstr s ∧ S.σ 1 = vstrs l ∧ S.σ 5 = vint i) ⟨0, ?_⟩ (fun i S hi ⟨hf, gb, gr, g0, g1, g5⟩ => ?_) (fun S ⟨hf, gb, gr, g0, g1, g5⟩ => ?_)
  · simp only [rB, Nat.reduceEqDiff, reduceCtorEq]
    first | exact rfl | exact ⟨rfl, rfl⟩
  · have hwi := wrap_succ (i := i) (N := l.length) hi (by omega)
    by_cases e : l[i] = s
    · simp only [↓rA, rB, Nat.reduceEqDiff, reduceCtorEq, tbOA0, gb, gr, g0, g1, g5, Int.ofNat_lt, hi, List.length_map, getD_map _ _ _ hi, e]
      exact ret_done (fb (memS_iff.2 (by rw [← e]; exact List.getElem_mem hi)).symm)
    · simp only [↓rA, rB, Nat.reduceEqDiff, reduceCtorEq, tbOA0, gb, gr, g0, g1, g5, Int.ofNat_lt, hi, List.length_map, getD_map _ _ _ hi, e, hwi]
      refine ⟨0, ?_⟩
      have : memS (l.take (i + 1)) s = false := by
        unfold memS at hf ⊢
        rw [List.take_succ_eq_append_getElem hi, List.any_append, hf]
        simp only [List.any_cons, List.any_nil, Bool.or_false, Bool.false_or]
        exact decide_eq_false fun h => e h.symm
      first | exact this | exact ⟨this, rfl⟩
  · simp only [↓rA, rB, Nat.reduceEqDiff, tbOA0, gb, gr, g1, g5, Int.ofNat_lt, Nat.lt_irrefl, List.length_map]
    rw [List.take_of_length_le (Nat.le_refl _)] at hf
    exact ret_done (fb hf.symm)
set_option linter.defProp false in
def tbOA1 := (aI (aI (aI Ty.sz9 Ty.by9) (aI Ty.ag9 (aI Ty.zr9 Ty.un9))) (aI (aI Ty.sz78 Ty.by78) (aI Ty.ag78 (aI Ty.zr78 Ty.un78))))
theorem operators_ok : OkP Tryz.prog 84 [] (vstrs binL) := by
  refine Ok.of_ex Ty.mixed Tryz.func84 rfl (by simp [Tryz.ntmps84]) (by kernel_rfl) fun F w0 I0 => ?_
  simp only [↓rA, rB, Nat.reduceAdd, Nat.reduceLT, Nat.reduceLeDiff, Nat.reduceMul, tbOA1, Tryz.results84]
  exact fun y => ⟨_, [], [], Le.list _ _ _, List.nil_sublist _, List.nil_sublist _, rfl, rfl, rfl⟩
set_option linter.defProp false in
def tbOA2 := (aI (aI (aI Ty.sz9 Ty.by9) (aI Ty.ag9 (aI Ty.zr9 Ty.un9))) (aI (aI Ty.sz78 Ty.by78) (aI Ty.ag78 (aI Ty.zr78 Ty.un78))))
theorem aggregates_ok : OkP Tryz.prog 104 [] (vstrs aggL) := by
  refine Ok.of_ex Ty.mixed Tryz.func104 rfl (by simp [Tryz.ntmps104]) (by kernel_rfl) fun F w0 I0 => ?_
  simp only [↓rA, rB, Nat.reduceAdd, Nat.reduceLT, Nat.reduceLeDiff, Nat.reduceMul, tbOA2, Tryz.results104]
  exact fun y => ⟨_, [], [], Le.list _ _ _, List.nil_sublist _, List.nil_sublist _, rfl, rfl, rfl⟩
theorem leH {b : Hd} {u c : V} {y : List E} (hu : Le u (vFacs b.unit)) (hc : Le c (vEs y)) : Le (.agg (cHu b u c)) (.agg (cH b (vEs y))) :=
  leAgg (.cons (Le.refl _) (.cons (Le.refl _) (.cons (Le.refl _) (.cons (Le.refl _) (.cons (Le.refl _) (.cons (Le.refl _) (.cons (Le.refl _) (.cons hu (.cons (Le.refl _) (.cons (Le.refl _) (.cons (Le.refl _) (.cons hc .nil))))))))))))
theorem flatU_ok (a b : Hd) (x : List E) (u c : V) (ha : a.unit.length ≤ big) (hu : Le u (vFacs b.unit)) (hc : Le c (vEs [])) : OkP Tryz.prog 26 [.agg (cH a (vEs x)), .agg (cHu b u c)] (vbool (decide (a = b))) :=
  Ok.le (.cons (Le.refl _) (.cons (leH hu hc) .nil)) (flat_ok a b x [] ha)
set_option linter.defProp false in
def tbOA3 := (aI (aI (aI (aI Ty.sz3 Ty.by3) (aI Ty.ag3 Ty.zr3)) (aI (aI Ty.un3 Ty.sz4) (aI Ty.by4 (aI Ty.ag4 Ty.zr4)))) (aI (aI (aI Ty.un4 Ty.sz31) (aI Ty.by31 (aI Ty.ag31 Ty.zr31))) (aI (aI Ty.fl31_0 Ty.pl31_0) (aI Ty.fl31_1 (aI Ty.pl31_1 Ty.eq31)))))
theorem window_ok (wk ws : Int) : OkP Tryz.prog 105 [.agg [vint wk, vint ws]] (vbool (okWin wk ws)) := by
  have fb : ∀ {a b : Bool}, a = b → V.lit (.bool a) = vbool b := fun h => by rw [h]
  refine Ok.of_ex Ty.mixed Tryz.func105 rfl (by simp [Tryz.ntmps105]) (by kernel_rfl) fun F w0 I0 => ?_
  simp only [↓rA, rB]
  refine fun b1 h1 => ?_; replace h1 := newb h1; try simp only [Nb] at h1
  by_cases k1 : wk = 1
  · subst k1
    by_cases e : ws = 0
    · simp only [↓rA, rB, Nat.reduceAdd, Nat.reduceEqDiff, tbOA3, Tryz.results105, e]
      exact ret_done (fb (by simp [okWin]))
    · simp only [↓rA, rB, Nat.reduceAdd, Nat.reduceEqDiff, tbOA3, Tryz.results105, e]
      exact ret_done (fb (by simp [okWin, e]))
  by_cases a : (1 : Int) < wk
  case neg =>
    simp only [↓rA, rB, Nat.reduceAdd, Nat.reduceEqDiff, tbOA3, Tryz.results105, k1, a]
    exact ret_done (fb (by rw [okWin, if_pos (by omega)]))
  by_cases b : wk ≤ 4
  case neg =>
    simp only [↓rA, rB, Nat.reduceAdd, Nat.reduceEqDiff, tbOA3, Tryz.results105, k1, a, b]
    exact ret_done (fb (by rw [okWin, if_neg (by omega), if_pos (by omega)]))
  by_cases c : (1 : Int) ≤ ws
  case neg =>
    simp only [↓rA, rB, Nat.reduceAdd, Nat.reduceEqDiff, tbOA3, Tryz.results105, k1, a, b, c]
    refine ret_done (fb ?_)
    rw [okWin, if_neg (by omega), if_neg (by omega)]
    split
    · rfl
    · rename_i h
      have hne : ¬ ws = 0 := fun e => h fun hh => k1 (hh.2 e)
      rw [if_pos (by omega)]
  simp only [↓rA, rB, Nat.reduceAdd, Nat.reduceEqDiff, tbOA3, Tryz.results105, k1, a, b, c]
  refine ret_done (fb ?_)
  rw [okWin, if_neg (by omega), if_neg (by omega), if_neg (fun h => h ⟨fun h => absurd h k1, fun h => by omega⟩), if_neg (by omega)]
  by_cases d : ws ≤ 1099511627776
  · rw [decide_eq_true d, if_neg (by omega)]
  · rw [decide_eq_false d, if_pos (by omega)]
set_option linter.defProp false in
def tbOA4 := (aI (aI (aI (aI (aI (aI Ty.sz3 Ty.by3) (aI Ty.ag3 (aI Ty.zr3 Ty.un3))) (aI (aI Ty.sz4 (aI Ty.by4 Ty.ag4)) (aI Ty.zr4 (aI Ty.un4 Ty.sz9)))) (aI (aI (aI Ty.by9 (aI Ty.ag9 Ty.zr9)) (aI Ty.un9 (aI Ty.sz28 Ty.by28))) (aI (aI Ty.ag28 (aI Ty.zr28 Ty.fl28_0)) (aI Ty.pl28_0 (aI Ty.fl28_1 Ty.pl28_1))))) (aI (aI (aI (aI Ty.fl28_2 (aI Ty.pl28_2 Ty.sz29)) (aI Ty.by29 (aI Ty.ag29 Ty.zr29))) (aI (aI Ty.un29 (aI Ty.sz31 Ty.by31)) (aI Ty.ag31 (aI Ty.zr31 Ty.fl31_0)))) (aI (aI (aI Ty.pl31_0 (aI Ty.fl31_1 Ty.pl31_1)) (aI Ty.sz32 (aI Ty.by32 Ty.ag32))) (aI (aI Ty.zr32 (aI Ty.un32 Ty.sz34)) (aI Ty.by34 (aI Ty.ag34 Ty.zr34)))))) (aI (aI (aI (aI (aI Ty.fl34_0 Ty.pl34_0) (aI Ty.fl34_1 (aI Ty.pl34_1 Ty.fl34_2))) (aI (aI Ty.pl34_2 (aI Ty.fl34_3 Ty.pl34_3)) (aI Ty.fl34_4 (aI Ty.pl34_4 Ty.fl34_5)))) (aI (aI (aI Ty.pl34_5 (aI Ty.fl34_6 Ty.pl34_6)) (aI Ty.fl34_7 (aI Ty.pl34_7 Ty.fl34_8))) (aI (aI Ty.pl34_8 (aI Ty.sz35 Ty.by35)) (aI Ty.ag35 (aI Ty.zr35 Ty.un35))))) (aI (aI (aI (aI Ty.sz49 (aI Ty.by49 Ty.ag49)) (aI Ty.zr49 (aI Ty.fl49_0 Ty.pl49_0))) (aI (aI Ty.fl49_1 (aI Ty.pl49_1 Ty.fl49_2)) (aI Ty.pl49_2 (aI Ty.sz103 Ty.by103)))) (aI (aI (aI Ty.ag103 (aI Ty.zr103 Ty.fl103_0)) (aI Ty.pl103_0 (aI Ty.fl103_1 Ty.pl103_1))) (aI (aI Ty.eq28 (aI Ty.eq31 Ty.eq103)) (aI Ty.cb26 (aI Ty.cb102 Ty.cb103)))))))
theorem literal_ok (h : Hd) (l : List E) (hu : h.unit.length ≤ big) (hk : h.kind = 1) : OkP Tryz.prog 81 [.agg (cH h (vEs l))] (vbool (okHd h false && decide (h = wantH h))) := by
  have fb : ∀ {a b : Bool}, a = b → V.lit (.bool a) = vbool b := fun h => by rw [h]
  have hw : wantH h = { hd0 1 with val := h.val, unit := h.unit, name := h.name } := by rw [wantH, if_pos hk]
  have hv := valR_ok h.val
  have ht := typeR_ok h.val.kind h.unit h.name
  have hfl := flatU_ok h { hd0 1 with val := h.val, unit := h.unit, name := h.name } l (vFacs h.unit) nilS hu (Le.refl _) (Le.nil 12)
  rw [hw, okHd, if_pos hk]
  refine Ok.of_ex Ty.mixed Tryz.func81 rfl (by simp [Tryz.ntmps81]) (by kernel_rfl) fun F w0 I0 => ?_
  simp only [↓rA, rB]
  refine fun b1 h1 => ?_; replace h1 := newb h1; try simp only [Nb] at h1
  simp only [↓rA, rB, Nat.reduceAdd, Nat.reduceEqDiff, Nat.reduceLeDiff, tbOA4]
  refine OkF_of _ hv ?_
  by_cases e : valC h.val = 0
  case neg =>
    simp only [↓rA, rB, Nat.reduceEqDiff, Tryz.results81, e]
    exact ret_done (fb (by simp []))
  by_cases e1 : h.val.n < 0
  · simp only [↓rA, rB, Nat.reduceAdd, Nat.reduceEqDiff, tbOA4, Tryz.results81, e, e1]
    exact ret_done (fb (by simp []))
  simp only [↓rA, rB, Nat.reduceAdd, Nat.reduceEqDiff, Nat.reduceLeDiff, tbOA4, e, e1]
  refine fun b3 h3 => ?_; replace h3 := newb h3; try simp only [Nb] at h3
  simp only [↓rA, rB, Nat.reduceAdd, Nat.reduceEqDiff, tbOA4]
  refine OkF_of _ ht ?_
  by_cases e2 : typeC h.val.kind h.unit h.name = 0
  case neg =>
    simp only [↓rA, rB, Nat.reduceEqDiff, Tryz.results81, e2]
    exact ret_done (fb (by simp []))
  simp only [↓rA, rB, Nat.reduceAdd, Nat.reduceEqDiff, Nat.reduceLeDiff, tbOA4, h3, e2]
  refine OkF_of _ hfl ?_
  simp only [↓rA, rB, Nat.reduceEqDiff, Tryz.results81, e2]
  exact ret_done (fb (by simp [e, e1]))
theorem okAgg_eq (h : Hd) : okAgg h = (memS aggL h.op && nameB h.table && decide (loP h.op ≤ h.param) && decide (h.param ≤ hiP h.op) && okWin h.wk h.ws) := by
  unfold okAgg
  cases memS aggL h.op
  · rfl
  cases nameB h.table
  · rfl
  simp only [Bool.true_eq_false, if_false, Bool.true_and]
  by_cases a : h.param < loP h.op
  · rw [if_pos a, decide_eq_false (by omega)]; rfl
  rw [if_neg a, decide_eq_true (show loP h.op ≤ h.param by omega)]
  by_cases b : hiP h.op < h.param
  · rw [if_pos b, decide_eq_false (by omega)]; rfl
  rw [if_neg b, decide_eq_true (show h.param ≤ hiP h.op by omega)]
  rfl
set_option linter.defProp false in
def tbOA5 := (aI (aI (aI (aI (aI (aI Ty.sz3 Ty.by3) (aI Ty.ag3 (aI Ty.zr3 Ty.un3))) (aI (aI Ty.sz4 Ty.by4) (aI Ty.ag4 (aI Ty.zr4 Ty.un4)))) (aI (aI (aI Ty.sz9 Ty.by9) (aI Ty.ag9 (aI Ty.zr9 Ty.un9))) (aI (aI Ty.sz28 (aI Ty.by28 Ty.ag28)) (aI Ty.zr28 (aI Ty.fl28_0 Ty.pl28_0))))) (aI (aI (aI (aI Ty.fl28_1 Ty.pl28_1) (aI Ty.fl28_2 (aI Ty.pl28_2 Ty.sz29))) (aI (aI Ty.by29 (aI Ty.ag29 Ty.zr29)) (aI Ty.un29 (aI Ty.sz31 Ty.by31)))) (aI (aI (aI Ty.ag31 Ty.zr31) (aI Ty.fl31_0 (aI Ty.pl31_0 Ty.fl31_1))) (aI (aI Ty.pl31_1 (aI Ty.sz32 Ty.by32)) (aI Ty.ag32 (aI Ty.zr32 Ty.un32)))))) (aI (aI (aI (aI (aI Ty.sz34 Ty.by34) (aI Ty.ag34 (aI Ty.zr34 Ty.fl34_0))) (aI (aI Ty.pl34_0 Ty.fl34_1) (aI Ty.pl34_1 (aI Ty.fl34_2 Ty.pl34_2)))) (aI (aI (aI Ty.fl34_3 Ty.pl34_3) (aI Ty.fl34_4 (aI Ty.pl34_4 Ty.fl34_5))) (aI (aI Ty.pl34_5 (aI Ty.fl34_6 Ty.pl34_6)) (aI Ty.fl34_7 (aI Ty.pl34_7 Ty.fl34_8))))) (aI (aI (aI (aI Ty.pl34_8 Ty.sz78) (aI Ty.by78 (aI Ty.ag78 Ty.zr78))) (aI (aI Ty.un78 (aI Ty.sz103 Ty.by103)) (aI Ty.ag103 (aI Ty.zr103 Ty.fl103_0)))) (aI (aI (aI Ty.pl103_0 Ty.fl103_1) (aI Ty.pl103_1 (aI Ty.eq28 Ty.eq31))) (aI (aI Ty.eq103 (aI Ty.cb26 Ty.cb80)) (aI Ty.cb83 (aI Ty.cb104 Ty.cb105)))))))
theorem agg10_ok (h : Hd) (l : List E) (hu : h.unit.length ≤ big) (hk : h.kind = 5) : OkP Tryz.prog 82 [.agg (cH h (vEs l))] (vbool (okAgg h && decide (h = wantH h))) := by
  have fb : ∀ {a b : Bool}, a = b → V.lit (.bool a) = vbool b := fun h => by rw [h]
  have hw : wantH h = { hd0 5 with op := h.op, table := h.table, param := h.param, wk := h.wk, ws := h.ws } := by simp [wantH, hk]
  have hfl := flatU_ok h { hd0 5 with op := h.op, table := h.table, param := h.param, wk := h.wk, ws := h.ws } l nilS nilS hu (Le.nil 2) (Le.nil 12)
  rw [hw]
  refine Ok.of_ex Ty.mixed Tryz.func82 rfl (by simp [Tryz.ntmps82]) (by kernel_rfl) fun F w0 I0 => ?_
  simp only [↓rA, rB]
  refine fun b1 h1 => ?_; replace h1 := newb h1; try simp only [Nb] at h1
  have cs : (decide (h.op = sQuant) = true ∧ decide (h.op = sDecay) = false ∧ hiP h.op = 1000 ∧ loP h.op = 1) ∨ (decide (h.op = sQuant) = false ∧ decide (h.op = sDecay) = true ∧ hiP h.op = 1073741824 ∧ loP h.op = 1) ∨ (decide (h.op = sQuant) = false ∧ decide (h.op = sDecay) = false ∧ hiP h.op = 0 ∧ loP h.op = 0) := by
    by_cases e1 : h.op = sQuant
    · exact .inl ⟨decide_eq_true e1, decide_eq_false (by rw [e1]; decide), by rw [hiP, if_pos e1], by rw [loP, if_pos e1]⟩
    by_cases e2 : h.op = sDecay
    · exact .inr (.inl ⟨decide_eq_false e1, decide_eq_true e2, by rw [hiP, if_neg e1, if_pos e2], by rw [loP, if_neg e1, if_pos e2]⟩)
    · exact .inr (.inr ⟨decide_eq_false e1, decide_eq_false e2, by rw [hiP, if_neg e1, if_neg e2], by rw [loP, if_neg e1, if_neg e2]⟩)
  rw [okAgg_eq]
  have m1 : min (1000 : Int) 1 = 1 := by decide
  have m2 : min (1073741824 : Int) 1 = 1 := by decide
  have m3 : min (0 : Int) 1 = 0 := by decide
  rcases cs with ⟨q1, q2, q3, q4⟩ | ⟨q1, q2, q3, q4⟩ | ⟨q1, q2, q3, q4⟩ <;>
  (rw [q3, q4]
   simp only [↓rA, rB, Nat.reduceAdd, Nat.reduceEqDiff, tbOA5, q1, q2]
   refine CallV_of _ aggregates_ok.v ?_
   simp only [↓rA, rB, Nat.reduceEqDiff, tbOA5]
   refine CallV_of _ (one_ok aggL h.op (by decide)).v ?_
   cases em : memS aggL h.op
   · simp only [↓rA, rB, Nat.reduceEqDiff, Tryz.results82]
     exact ret_done (fb rfl)
   simp only [↓rA, rB, Nat.reduceAdd, Nat.reduceEqDiff, tbOA5]
   refine CallV_of _ (nameR_ok h.table).v ?_
   cases en : nameB h.table
   · simp only [↓rA, rB, Nat.reduceEqDiff, Tryz.results82]
     exact ret_done (fb rfl)
   simp only [↓rA, rB, Nat.reduceAdd, Nat.reduceEqDiff, Nat.reduceLeDiff, tbOA5]
   refine CallV_of _ (window_ok h.wk h.ws).v ?_
   cases ew : okWin h.wk h.ws
   · simp only [↓rA, rB, Nat.reduceEqDiff, Tryz.results82]
     exact ret_done (fb (by simp))
   by_cases p1 : hiP h.op < h.param
   · have z : decide (h.param ≤ hiP h.op) = false := decide_eq_false (by omega)
     rw [q3] at p1 z
     simp only [↓rA, rB, Nat.reduceAdd, Nat.reduceEqDiff, tbOA5, Tryz.results82, p1]
     exact ret_done (fb (by rw [z]; simp))
   have z : decide (h.param ≤ hiP h.op) = true := decide_eq_true (by omega)
   by_cases p2 : h.param < loP h.op
   · have z2 : decide (loP h.op ≤ h.param) = false := decide_eq_false (by omega)
     rw [q3] at p1
     rw [q4] at p2 z2
     simp only [↓rA, rB, Int.reduceLT, Nat.reduceAdd, Nat.reduceEqDiff, tbOA5, Tryz.results82, p1, p2]
     exact ret_done (fb (by rw [z2]; simp))
   have z2 : decide (loP h.op ≤ h.param) = true := decide_eq_true (by omega)
   rw [q3] at p1 z
   rw [q4] at p2 z2
   simp only [↓rA, rB, Int.reduceLT, Nat.reduceAdd, Nat.reduceEqDiff, Nat.reduceLeDiff, tbOA5, p1, p2]
   refine OkF_of _ hfl ?_
   simp only [↓rA, rB, Int.reduceLT, Tryz.results82]
   exact ret_done (fb (by rw [z, z2]; rfl)))
set_option linter.defProp false in
def tbOA6 := (aI (aI (aI (aI (aI (aI Ty.sz3 Ty.by3) (aI Ty.ag3 (aI Ty.zr3 Ty.un3))) (aI (aI Ty.sz4 Ty.by4) (aI Ty.ag4 (aI Ty.zr4 Ty.un4)))) (aI (aI (aI Ty.sz9 Ty.by9) (aI Ty.ag9 (aI Ty.zr9 Ty.un9))) (aI (aI Ty.sz28 (aI Ty.by28 Ty.ag28)) (aI Ty.zr28 (aI Ty.fl28_0 Ty.pl28_0))))) (aI (aI (aI (aI Ty.fl28_1 Ty.pl28_1) (aI Ty.fl28_2 (aI Ty.pl28_2 Ty.sz29))) (aI (aI Ty.by29 (aI Ty.ag29 Ty.zr29)) (aI Ty.un29 (aI Ty.sz31 Ty.by31)))) (aI (aI (aI Ty.ag31 Ty.zr31) (aI Ty.fl31_0 (aI Ty.pl31_0 Ty.fl31_1))) (aI (aI Ty.pl31_1 (aI Ty.sz32 Ty.by32)) (aI Ty.ag32 (aI Ty.zr32 Ty.un32)))))) (aI (aI (aI (aI (aI Ty.sz34 Ty.by34) (aI Ty.ag34 (aI Ty.zr34 Ty.fl34_0))) (aI (aI Ty.pl34_0 (aI Ty.fl34_1 Ty.pl34_1)) (aI Ty.fl34_2 (aI Ty.pl34_2 Ty.fl34_3)))) (aI (aI (aI Ty.pl34_3 Ty.fl34_4) (aI Ty.pl34_4 (aI Ty.fl34_5 Ty.pl34_5))) (aI (aI Ty.fl34_6 (aI Ty.pl34_6 Ty.fl34_7)) (aI Ty.pl34_7 (aI Ty.fl34_8 Ty.pl34_8))))) (aI (aI (aI (aI Ty.sz78 Ty.by78) (aI Ty.ag78 (aI Ty.zr78 Ty.un78))) (aI (aI Ty.sz103 (aI Ty.by103 Ty.ag103)) (aI Ty.zr103 (aI Ty.fl103_0 Ty.pl103_0)))) (aI (aI (aI Ty.fl103_1 Ty.pl103_1) (aI Ty.eq28 (aI Ty.eq31 Ty.eq103))) (aI (aI Ty.cb26 (aI Ty.cb80 Ty.cb81)) (aI Ty.cb82 (aI Ty.cb83 Ty.cb84)))))))
theorem nodeR_ok (h : Hd) (l : List E) (ins : Bool) (hu : h.unit.length ≤ big) : OkP Tryz.prog 71 [.agg (cH h (vEs l)), vbool ins] (.tup [vint (manyH h.kind), vbool (okHd h ins && decide (h = wantH h))]) := by
  have ft : ∀ {n m : Int} {a b : Bool}, n = m → a = b → V.tup [V.lit (.int .i64 n), V.lit (.bool a)] = .tup [vint m, vbool b] := fun h h' => by rw [h, h']
  have hfn := flatU_ok h { hd0 h.kind with name := h.name } l nilS nilS hu (Le.nil 2) (Le.nil 12)
  have hfo := flatU_ok h { hd0 h.kind with op := h.op } l nilS nilS hu (Le.nil 2) (Le.nil 12)
  have hlit := literal_ok h l hu
  have hagg := agg10_ok h l hu
  obtain ⟨k, op, na, ta, va, un, pa, wk, ws⟩ := h
  generalize hN : decide ((⟨k, op, na, ta, va, un, pa, wk, ws⟩ : Hd) = { hd0 k with name := na }) = N at hfn
  generalize hO : decide ((⟨k, op, na, ta, va, un, pa, wk, ws⟩ : Hd) = { hd0 k with op := op }) = O at hfo
  refine Ok.of_ex Ty.mixed Tryz.func71 rfl (by simp [Tryz.ntmps71]) (by kernel_rfl) fun F w0 I0 => ?_
  simp only [↓rA, rB]
  refine fun b2 h2 => ?_; replace h2 := newb h2; try simp only [Nb] at h2
  simp only [↓EX_seq, ↓EX_ops_nil, ↓EX_plain, ↓ST_assign, onVal_eq, Todo_eq, ev_const, List.toList_toArray, Tryz.results71]
  refine EX_cut (fun S => S.boxes = [(b2, .c (cH ⟨k, op, na, ta, va, un, pa, wk, ws⟩ (vEs l)))] ∧ S.rows = [] ∧ S.σ 1 = vbool ins ∧ S.σ 2 = ptr b2 ∧ S.σ 6 = vbool (nameB na && N)) ?_ ?_
  · simp only [↓rA, rB, Nat.reduceAdd, Nat.reduceEqDiff, tbOA6]
    refine OkF_of _ (nameR_ok na) ?_
    cases en : nameB na
    · simp only [↓rA, rB, Nat.reduceEqDiff]
    · simp only [↓rA, rB, Nat.reduceAdd, Nat.reduceEqDiff, Nat.reduceLeDiff, tbOA6]
      refine OkF_of _ hfn ?_
      simp only [↓rA, rB, Nat.reduceEqDiff]
      first | done | exact ⟨rfl, rfl⟩ | exact rfl
  rintro S ⟨gb, gr, g1, g2, g6⟩
  simp only [↓rA, rB, Nat.reduceAdd, Nat.reduceEqDiff, Nat.reduceLeDiff, tbOA6, gb, g2]
  refine OkF_of _ hfo ?_
  by_cases k1 : k = 1
  · subst k1
    simp only [↓rA, rB, Nat.reduceAdd, Nat.reduceEqDiff, tbOA6, gr, g2]
    refine OkF_of _ (hlit rfl) ?_
    simp only [↓rA, rB, Nat.reduceEqDiff, gr]
    exact ret_done (ft rfl rfl)
  by_cases k2 : k = 2
  · subst k2
    simp only [↓rA, rB, Int.reduceEq, Nat.reduceAdd, Nat.reduceEqDiff, tbOA6, gr, g1, g2]
    cases ins
    · simp only [↓rA, rB, Nat.reduceEqDiff, gr]
      exact ret_done (ft rfl (by simp [okHd]))
    · simp only [↓rA, rB, Nat.reduceEqDiff, gr, g6]
      exact ret_done (ft rfl (by rw [← hN]; simp [okHd, wantH]))
  by_cases k3 : k = 3
  · subst k3
    cases ins
    · simp only [↓rA, rB, Int.reduceEq, Nat.reduceAdd, Nat.reduceEqDiff, tbOA6, gr, g1, g2, g6]
      exact ret_done (ft rfl (by rw [← hN]; simp [okHd, wantH]))
    · simp only [↓rA, rB, Int.reduceEq, Nat.reduceAdd, Nat.reduceEqDiff, tbOA6, gr, g1, g2]
      exact ret_done (ft rfl (by simp [okHd]))
  by_cases k4 : k = 4
  · subst k4
    cases ins
    · simp only [↓rA, rB, Int.reduceEq, Nat.reduceAdd, Nat.reduceEqDiff, tbOA6, gr, g1, g2, g6]
      exact ret_done (ft rfl (by rw [← hN]; simp [okHd, wantH]))
    · simp only [↓rA, rB, Int.reduceEq, Nat.reduceAdd, Nat.reduceEqDiff, tbOA6, gr, g1, g2]
      exact ret_done (ft rfl (by simp [okHd]))
  by_cases k5 : k = 5
  · subst k5
    cases ins
    · simp only [↓rA, rB, Int.reduceEq, Nat.reduceAdd, Nat.reduceEqDiff, tbOA6, gr, g1, g2]
      refine OkF_of _ (hagg rfl) ?_
      simp only [↓rA, rB, Nat.reduceEqDiff, gr]
      exact ret_done (ft rfl (by simp [okHd]))
    · simp only [↓rA, rB, Int.reduceEq, Nat.reduceAdd, Nat.reduceEqDiff, tbOA6, gr, g1, g2]
      exact ret_done (ft rfl (by simp [okHd]))
  by_cases k6 : k = 6
  · subst k6
    cases O
    · simp only [↓rA, rB, Int.reduceEq, Nat.reduceAdd, Nat.reduceEqDiff, tbOA6, gr, g2]
      exact ret_done (ft rfl (by rw [show decide ((⟨6, op, na, ta, va, un, pa, wk, ws⟩ : Hd) = wantH ⟨6, op, na, ta, va, un, pa, wk, ws⟩) = false from hO]; simp))
    · simp only [↓rA, rB, Int.reduceEq, Nat.reduceAdd, Nat.reduceEqDiff, Nat.reduceLT, Nat.reduceLeDiff, Nat.reduceMul, tbOA6, gr, g2]
      refine fun y => OkF_of _ (Ok.le (.cons (Le.refl _) (.cons (Le.list _ _ _) .nil)) (one_ok unL op (by decide))) ?_
      simp only [↓rA, rB, Nat.reduceEqDiff, gr]
      exact ret_done (ft rfl (by rw [show decide ((⟨6, op, na, ta, va, un, pa, wk, ws⟩ : Hd) = wantH ⟨6, op, na, ta, va, un, pa, wk, ws⟩) = true from hO]; simp [okHd]))
  by_cases k7 : k = 7
  · subst k7
    cases O
    · simp only [↓rA, rB, Int.reduceEq, Nat.reduceAdd, Nat.reduceEqDiff, tbOA6, gr, g2]
      exact ret_done (ft rfl (by rw [show decide ((⟨7, op, na, ta, va, un, pa, wk, ws⟩ : Hd) = wantH ⟨7, op, na, ta, va, un, pa, wk, ws⟩) = false from hO]; simp))
    · simp only [↓rA, rB, Int.reduceEq, Nat.reduceAdd, Nat.reduceEqDiff, tbOA6, gr, g2]
      refine CallV_of _ operators_ok.v ?_
      simp only [↓rA, rB, Nat.reduceEqDiff, tbOA6, gr]
      refine CallV_of _ (one_ok binL op (by decide)).v ?_
      simp only [↓rA, rB, Nat.reduceEqDiff, gr]
      exact ret_done (ft rfl (by rw [show decide ((⟨7, op, na, ta, va, un, pa, wk, ws⟩ : Hd) = wantH ⟨7, op, na, ta, va, un, pa, wk, ws⟩) = true from hO]; simp [okHd]))
  have bare : ∀ k : Int, (k = 8 ∨ k = 9) → (decide ((⟨k, op, na, ta, va, un, pa, wk, ws⟩ : Hd) = { hd0 k with op := op }) && decide (op = es0)) = (okHd ⟨k, op, na, ta, va, un, pa, wk, ws⟩ ins && decide ((⟨k, op, na, ta, va, un, pa, wk, ws⟩ : Hd) = wantH ⟨k, op, na, ta, va, un, pa, wk, ws⟩)) := by
    rintro k (rfl | rfl)
    · rw [show okHd ⟨8, op, na, ta, va, un, pa, wk, ws⟩ ins = true from rfl, show wantH ⟨8, op, na, ta, va, un, pa, wk, ws⟩ = hd0 8 from rfl, Bool.true_and]
      by_cases e : op = es0
      · subst e; simp
      · rw [decide_eq_false e, Bool.and_false, decide_eq_false (fun h => e (congrArg Hd.op h))]
    · rw [show okHd ⟨9, op, na, ta, va, un, pa, wk, ws⟩ ins = true from rfl, show wantH ⟨9, op, na, ta, va, un, pa, wk, ws⟩ = hd0 9 from rfl, Bool.true_and]
      by_cases e : op = es0
      · subst e; simp
      · rw [decide_eq_false e, Bool.and_false, decide_eq_false (fun h => e (congrArg Hd.op h))]
  by_cases k8 : k = 8
  · subst k8
    have hb := bare 8 (.inl rfl)
    rw [hO] at hb
    cases O
    · simp only [↓rA, rB, Int.reduceEq, Nat.reduceAdd, Nat.reduceEqDiff, tbOA6, gr, g2]
      exact ret_done (ft rfl (by rw [← hb]; rfl))
    · simp only [↓rA, rB, Int.reduceEq, Nat.reduceAdd, Nat.reduceEqDiff, tbOA6, gr, g2]
      exact ret_done (ft rfl (by rw [← hb]; rfl))
  by_cases k9 : k = 9
  · subst k9
    have hb := bare 9 (.inr rfl)
    rw [hO] at hb
    cases O
    · simp only [↓rA, rB, Int.reduceEq, Nat.reduceAdd, Nat.reduceEqDiff, tbOA6, gr, g2]
      exact ret_done (ft rfl (by rw [← hb]; rfl))
    · simp only [↓rA, rB, Int.reduceEq, Nat.reduceAdd, Nat.reduceEqDiff, tbOA6, gr, g2]
      exact ret_done (ft rfl (by rw [← hb]; rfl))
  simp only [↓rA, rB, Nat.reduceAdd, Nat.reduceEqDiff, tbOA6, gr, g2, k1, k2, k3, k4, k5, k6, k7, k8, k9]
  exact ret_done (ft (by simp [manyH, k4, k5, k6, k7, k8, k9]) (by simp [okHd, k1, k2, k3, k4, k5, k6, k7, k8, k9]))
end Go.Proofs.YtphkmlogjgeipaaGreatDoor

/- Contracts of the reference's checks, part e: Form and Shape. -/
set_option linter.unusedSimpArgs false
set_option maxRecDepth 100000
namespace Go.Proofs.YtphkmlogjgeipaaGreatDoor
open Go.VL Go.Ar Go.Lo Go.Proofs.YtphkmlogjgeipaaGreatDoor
theorem proper_true {a : E} {ins : Bool} (hp : properE a ins = true) : decide (a = tt) = decide (a.hd = hdTrue) := by
  by_cases e : a.hd = hdTrue
  · rw [decide_eq_true e]
    refine decide_eq_true ?_
    obtain ⟨h, l⟩ := a
    simp only [E.hd] at e
    subst e
    obtain ⟨_, _, p3, _, _⟩ := proper_parts hp
    have : (l.length : Int) = 0 := p3
    have : l = [] := List.length_eq_zero_iff.1 (by omega)
    rw [this]
  · rw [decide_eq_false e]
    exact decide_eq_false fun h => e (by rw [h]; rfl)
theorem properEs_take {l : List E} {i : Nat} {ins : Bool} (h : i < l.length) : properEs (l.take (i + 1)) ins = (properEs (l.take i) ins && properE l[i] ins) := by
  rw [List.take_succ_eq_append_getElem h, properEs_append]
  simp [properEs]
theorem properEs_fail {l : List E} {i : Nat} {ins : Bool} (h : i < l.length) (hp : properE l[i] ins = false) : properEs l ins = false := by
  rw [← List.take_append_drop (i + 1) l, properEs_append, properEs_take h, hp]
  simp
set_option linter.defProp false in
def tbOB0 := (aI (aI (aI (aI (aI (aI Ty.sz3 Ty.by3) (aI Ty.ag3 (aI Ty.zr3 Ty.un3))) (aI (aI Ty.sz4 Ty.by4) (aI Ty.ag4 (aI Ty.zr4 Ty.un4)))) (aI (aI (aI Ty.sz9 Ty.by9) (aI Ty.ag9 (aI Ty.zr9 Ty.un9))) (aI (aI Ty.sz28 Ty.by28) (aI Ty.ag28 (aI Ty.zr28 Ty.fl28_0))))) (aI (aI (aI (aI Ty.pl28_0 Ty.fl28_1) (aI Ty.pl28_1 (aI Ty.fl28_2 Ty.pl28_2))) (aI (aI Ty.sz29 Ty.by29) (aI Ty.ag29 (aI Ty.zr29 Ty.un29)))) (aI (aI (aI Ty.sz31 Ty.by31) (aI Ty.ag31 (aI Ty.zr31 Ty.fl31_0))) (aI (aI Ty.pl31_0 (aI Ty.fl31_1 Ty.pl31_1)) (aI Ty.sz32 (aI Ty.by32 Ty.ag32)))))) (aI (aI (aI (aI (aI Ty.zr32 Ty.un32) (aI Ty.sz34 (aI Ty.by34 Ty.ag34))) (aI (aI Ty.zr34 Ty.fl34_0) (aI Ty.pl34_0 (aI Ty.fl34_1 Ty.pl34_1)))) (aI (aI (aI Ty.fl34_2 Ty.pl34_2) (aI Ty.fl34_3 (aI Ty.pl34_3 Ty.fl34_4))) (aI (aI Ty.pl34_4 (aI Ty.fl34_5 Ty.pl34_5)) (aI Ty.fl34_6 (aI Ty.pl34_6 Ty.fl34_7))))) (aI (aI (aI (aI Ty.pl34_7 Ty.fl34_8) (aI Ty.pl34_8 (aI Ty.sz103 Ty.by103))) (aI (aI Ty.ag103 Ty.zr103) (aI Ty.fl103_0 (aI Ty.pl103_0 Ty.fl103_1)))) (aI (aI (aI Ty.pl103_1 Ty.sz113) (aI Ty.by113 (aI Ty.ag113 Ty.eq28))) (aI (aI Ty.eq31 (aI Ty.eq103 Ty.cb8)) (aI Ty.cb12 (aI Ty.cb57 Ty.cb71)))))))
theorem form_ok : ∀ x : E, ∀ ins : Bool, Fit x → OkP Tryz.prog 57 [vE x, vbool ins] (vbool (properE x ins)) := by
  have fb : ∀ {a b : Bool}, a = b → V.lit (.bool a) = vbool b := fun h => by rw [h]
  intro x
  induction x using E.ind with
  | h hd l ih =>
  intro ins hf
  have hl := hf.len
  have hu := hf.unit
  have ha := hf.args
  simp only [E.args, E.hd] at hl hu ha
  unfold big at hl
  rw [vE, cE_mk, properE_mk]
  refine Ok.of_ex Ty.mixed Tryz.func57 rfl (by simp [Tryz.ntmps57]) (by kernel_rfl) fun F w0 I0 => ?_
  simp only [↓rA, rB]
  refine fun b2 h2 => ?_; replace h2 := newb h2; try simp only [Nb] at h2
  simp only [↓rA, rB, Nat.reduceAdd, Nat.reduceEqDiff, tbOB0]
  refine OkF_of _ (nodeR_ok hd l ins hu) ?_
  cases e : (okHd hd ins && decide (hd = wantH hd))
  · simp only [↓rA, rB, Nat.reduceEqDiff, Tryz.results57]
    exact ret_done (fb (by simp))
  by_cases el : (l.length : Int) = manyH hd.kind
  case neg =>
    simp only [↓rA, rB, Nat.reduceAdd, Nat.reduceEqDiff, tbOB0, Tryz.results57, List.length_map, el]
    exact ret_done (fb (by simp []))
  simp only [↓rA, rB, Nat.reduceAdd, Nat.reduceEqDiff, tbOB0, Tryz.results57, List.length_map, el]
  refine EX_for Ty.mixed (by kernel_rfl) l.length (fun i S => properEs (l.take i) (ins || decide (hd.kind = 5)) = true ∧ S.boxes = [(b2, .c (cH hd (vEs l)))] ∧ S.rows = [] ∧ S.σ 1 = vbool ins ∧ S.σ 2 = ptr b2 ∧ S.σ 5 = vint l.length ∧ S.σ 7 = vint i) ⟨0, ?_⟩ (fun i S hi ⟨hp, gb, gr, g1, g2, g5, g7⟩ => ?_) (fun S ⟨hp, gb, gr, g1, g2, g5, g7⟩ => ?_)
  · simp only [rB, Nat.reduceEqDiff, el]
    first | done | exact rfl | exact ⟨rfl, rfl⟩ | exact ⟨rfl, rfl, rfl⟩
  · have hwi := wrap_succ (i := i) (N := l.length) hi (by omega)
    have hx := List.getElem_mem hi
    have ht := properEs_take (ins := ins || decide (hd.kind = 5)) hi
    have hb := properEs_fail (ins := ins || decide (hd.kind = 5)) hi
    have hc := ih l[i] hx (ins || decide (hd.kind = 5)) (ha _ hx)
    rw [vE, cE_eq] at hc
    cases ins
    · simp only [Bool.false_or] at hc ht hb hp ⊢
      simp only [↓rA, rB, Nat.reduceAdd, Nat.reduceEqDiff, tbOB0, gb, g1, g2, g5, g7, Int.ofNat_lt, hi, List.length_map, getD_map _ _ _ hi, cE_eq]
      refine CallV_of _ hc.v ?_
      cases q : properE l[i] (decide (hd.kind = 5))
      · simp only [↓rA, rB, gb, gr]
        exact ret_done (fb (by rw [hb q]; simp))
      · simp only [↓rA, rB, Nat.reduceEqDiff, gb, gr, g1, g2, g5, g7, hwi]
        exact ⟨0, by rw [ht, hp, q]; rfl, rfl⟩
    · simp only [Bool.true_or] at hc ht hb hp ⊢
      simp only [↓rA, rB, Nat.reduceAdd, Nat.reduceEqDiff, tbOB0, gb, g1, g2, g5, g7, Int.ofNat_lt, hi, List.length_map, getD_map _ _ _ hi, cE_eq]
      refine CallV_of _ hc.v ?_
      cases q : properE l[i] true
      · simp only [↓rA, rB, gb, gr]
        exact ret_done (fb (by rw [hb q]; simp))
      · simp only [↓rA, rB, Nat.reduceEqDiff, gb, gr, g1, g2, g5, g7, hwi]
        exact ⟨0, by rw [ht, hp, q]; rfl, rfl⟩
  · rw [List.take_of_length_le (Nat.le_refl _)] at hp
    rw [hp]
    simp only [Bool.true_and]
    by_cases k5 : hd.kind = 5
    case neg =>
      simp only [↓rA, rB, Nat.reduceAdd, Nat.reduceEqDiff, tbOB0, gb, gr, g2, g5, g7, Int.ofNat_lt, Nat.lt_irrefl, k5]
      exact ret_done (fb (by unfold countOk; simp [k5]))
    by_cases kc : hd.op = sCount
    case neg =>
      simp only [↓rA, rB, Nat.reduceAdd, Nat.reduceEqDiff, tbOB0, gb, gr, g2, g5, g7, Int.ofNat_lt, Nat.lt_irrefl, k5, kc]
      exact ret_done (fb (by unfold countOk; rw [if_neg kc]))
    have l2 : l.length = 2 := by
      rw [k5] at el
      have : (l.length : Int) = 2 := el
      omega
    match l, l2, hp, ha with
    | [a, c], _, hp, ha =>
    have hpa : properE a (ins || decide (hd.kind = 5)) = true := properEs_all _ _ |>.1 hp a List.mem_cons_self
    have hs := sameExprR_ok a (ha a List.mem_cons_self) tt
    rw [proper_true hpa] at hs
    have ht := true_ok
    rw [vE, cE_eq] at hs
    rw [vE, cE_mk] at ht
    have hco : countOk hd [a, c] = decide (a.hd = hdTrue) := by unfold countOk; rw [if_pos kc, if_pos k5]
    rw [hco]
    rw [vE, cE_mk] at hs
    simp only [↓rA, rB, Int.reduceToNat, Nat.reduceAdd, Nat.reduceEqDiff, tbOB0, gb, g2, g5, g7, Int.ofNat_lt, Nat.lt_irrefl, k5, kc, cE_eq a]
    refine CallV_of _ ht.v ?_
    simp only [↓rA, rB, Nat.reduceEqDiff, tbOB0]
    refine CallV_of _ hs.v ?_
    simp only [↓rA, rB, Nat.reduceEqDiff]
    exact ret_done rfl
set_option linter.defProp false in
def tbOB1 := (aI (aI (aI (aI (aI (aI Ty.sz3 Ty.by3) (aI Ty.ag3 (aI Ty.zr3 Ty.un3))) (aI (aI Ty.sz4 Ty.by4) (aI Ty.ag4 (aI Ty.zr4 Ty.un4)))) (aI (aI (aI Ty.sz9 Ty.by9) (aI Ty.ag9 (aI Ty.zr9 Ty.un9))) (aI (aI Ty.sz28 (aI Ty.by28 Ty.ag28)) (aI Ty.zr28 (aI Ty.fl28_0 Ty.pl28_0))))) (aI (aI (aI (aI Ty.fl28_1 Ty.pl28_1) (aI Ty.fl28_2 (aI Ty.pl28_2 Ty.sz29))) (aI (aI Ty.by29 Ty.ag29) (aI Ty.zr29 (aI Ty.un29 Ty.sz31)))) (aI (aI (aI Ty.by31 Ty.ag31) (aI Ty.zr31 (aI Ty.fl31_0 Ty.pl31_0))) (aI (aI Ty.fl31_1 (aI Ty.pl31_1 Ty.sz32)) (aI Ty.by32 (aI Ty.ag32 Ty.zr32)))))) (aI (aI (aI (aI (aI Ty.un32 Ty.sz34) (aI Ty.by34 (aI Ty.ag34 Ty.zr34))) (aI (aI Ty.fl34_0 Ty.pl34_0) (aI Ty.fl34_1 (aI Ty.pl34_1 Ty.fl34_2)))) (aI (aI (aI Ty.pl34_2 Ty.fl34_3) (aI Ty.pl34_3 (aI Ty.fl34_4 Ty.pl34_4))) (aI (aI Ty.fl34_5 (aI Ty.pl34_5 Ty.fl34_6)) (aI Ty.pl34_6 (aI Ty.fl34_7 Ty.pl34_7))))) (aI (aI (aI (aI Ty.fl34_8 Ty.pl34_8) (aI Ty.sz35 (aI Ty.by35 Ty.ag35))) (aI (aI Ty.zr35 Ty.un35) (aI Ty.sz103 (aI Ty.by103 Ty.ag103)))) (aI (aI (aI Ty.zr103 Ty.fl103_0) (aI Ty.pl103_0 (aI Ty.fl103_1 Ty.pl103_1))) (aI (aI Ty.eq28 (aI Ty.eq31 Ty.eq103)) (aI Ty.cb17 (aI Ty.cb56 Ty.cb57)))))))
theorem shapeR_ok (x : E) (hf : Fit x) (hb : depthE x ≤ big) : OkP Tryz.prog 40 [vE x] (vint (shapeC x)) := by
  have fi : ∀ {a b : Int}, a = b → V.lit (.int .i64 a) = vint b := fun h => by rw [h]
  have hs := sizeR_ok x hf
  have hd := depthR_ok x hf hb
  have hp := form_ok x false hf
  rw [vE, cE_eq] at hs hd hp ⊢
  refine Ok.of_ex Ty.mixed Tryz.func40 rfl (by simp [Tryz.ntmps40]) (by kernel_rfl) fun F w0 I0 => ?_
  simp only [↓rA, rB]
  refine fun b1 h1 => ?_; replace h1 := newb h1; try simp only [Nb] at h1
  simp only [↓rA, rB, Nat.reduceAdd, Nat.reduceEqDiff, tbOB1]
  refine OkF_of _ hs ?_
  by_cases e1 : 64 < IntKind.i64.wrap (sizeE x : Int)
  · simp only [↓rA, rB, Nat.reduceEqDiff, Tryz.results40, e1]
    exact ret_done (fi (by rw [shapeC, if_pos e1]))
  simp only [↓rA, rB, Nat.reduceAdd, Nat.reduceEqDiff, tbOB1, e1]
  refine OkF_of _ hd ?_
  by_cases e2 : 12 < depthE x
  · have e2' : (12 : Int) < depthE x := by omega
    simp only [↓rA, rB, Nat.reduceEqDiff, Tryz.results40, e2']
    exact ret_done (fi (by rw [shapeC, if_neg e1, if_pos e2]))
  have e2' : ¬ (12 : Int) < depthE x := by omega
  simp only [↓rA, rB, Nat.reduceAdd, Nat.reduceEqDiff, tbOB1, e2']
  refine OkF_of _ hp ?_
  cases e3 : properE x false
  · simp only [↓rA, rB, Tryz.results40]
    exact ret_done (fi (by rw [shapeC, if_neg e1, if_neg e2, if_neg (by rw [e3]; decide)]))
  · simp only [↓rA, rB, Tryz.results40]
    exact ret_done (fi (by rw [shapeC, if_neg e1, if_neg e2, if_pos e3]))
end Go.Proofs.YtphkmlogjgeipaaGreatDoor

/- Contracts of the reference's lowering, part g: put (seat of LowerMatchesRaise). -/
set_option linter.unusedSimpArgs false
set_option maxRecDepth 100000
namespace Go.Proofs.YtphkmlogjgeipaaGreatDoor
open Go.VL Go.Ar Go.Lo Go.Proofs.YtphkmlogjgeipaaGreatDoor
/-- A list of nodes handed on: how it lies. -/
def Nl (L : List Nd) (v : V) (bs : List (Nat × B)) : Prop :=
  (L = [] ∧ v = nilS ∧ bs = []) ∨ ∃ g c rest, L ≠ [] ∧ L.length ≤ c ∧ rest.length = (c - L.length) * 23 ∧ v = slN g L.length c ∧ bs = [(g, bN L rest)]
set_option linter.defProp false in
def tbOC0 := (aI (aI (aI (aI (aI (aI Ty.sz3 (aI Ty.by3 Ty.ag3)) (aI Ty.zr3 (aI Ty.un3 Ty.sz4))) (aI (aI Ty.by4 (aI Ty.ag4 Ty.zr4)) (aI (aI Ty.un4 Ty.sz9) (aI Ty.by9 Ty.ag9)))) (aI (aI (aI Ty.zr9 (aI Ty.un9 Ty.sz22)) (aI (aI Ty.by22 Ty.ag22) (aI Ty.zr22 Ty.un22))) (aI (aI Ty.sz28 (aI Ty.by28 Ty.ag28)) (aI (aI Ty.zr28 Ty.fl28_0) (aI Ty.pl28_0 Ty.fl28_1))))) (aI (aI (aI (aI Ty.pl28_1 (aI Ty.fl28_2 Ty.pl28_2)) (aI Ty.sz29 (aI Ty.by29 Ty.ag29))) (aI (aI Ty.zr29 (aI Ty.un29 Ty.sz31)) (aI (aI Ty.by31 Ty.ag31) (aI Ty.zr31 Ty.fl31_0)))) (aI (aI (aI Ty.pl31_0 (aI Ty.fl31_1 Ty.pl31_1)) (aI (aI Ty.sz32 Ty.by32) (aI Ty.ag32 Ty.zr32))) (aI (aI Ty.un32 (aI Ty.sz34 Ty.by34)) (aI (aI Ty.ag34 Ty.zr34) (aI Ty.fl34_0 Ty.pl34_0)))))) (aI (aI (aI (aI (aI Ty.fl34_1 (aI Ty.pl34_1 Ty.fl34_2)) (aI Ty.pl34_2 (aI Ty.fl34_3 Ty.pl34_3))) (aI (aI Ty.fl34_4 (aI Ty.pl34_4 Ty.fl34_5)) (aI (aI Ty.pl34_5 Ty.fl34_6) (aI Ty.pl34_6 Ty.fl34_7)))) (aI (aI (aI Ty.pl34_7 (aI Ty.fl34_8 Ty.pl34_8)) (aI (aI Ty.sz45 Ty.by45) (aI Ty.ag45 Ty.zr45))) (aI (aI Ty.un45 (aI Ty.sz47 Ty.by47)) (aI (aI Ty.ag47 Ty.zr47) (aI Ty.fl47_0 Ty.pl47_0))))) (aI (aI (aI (aI Ty.fl47_1 (aI Ty.pl47_1 Ty.fl47_2)) (aI (aI Ty.pl47_2 Ty.fl47_3) (aI Ty.pl47_3 Ty.fl47_4))) (aI (aI Ty.pl47_4 (aI Ty.fl47_5 Ty.pl47_5)) (aI (aI Ty.fl47_6 Ty.pl47_6) (aI Ty.fl47_7 Ty.pl47_7)))) (aI (aI (aI Ty.fl47_8 (aI Ty.pl47_8 Ty.sz103)) (aI (aI Ty.by103 Ty.ag103) (aI Ty.zr103 Ty.fl103_0))) (aI (aI Ty.pl103_0 (aI Ty.fl103_1 Ty.pl103_1)) (aI (aI Ty.eq28 Ty.eq31) (aI Ty.eq103 Ty.cb42)))))))
theorem putR_nil (x : Nd) : Ok Tryz.prog 60 [nilS, .agg (cNd x)] [] fun w bs rs => ∃ u, w = .tup [u, vint 0] ∧ Nl [x] u bs ∧ rs = [] := by
  simp only [cNd_eq]
  refine Ok.of_ex Ty.mixed Tryz.func60 rfl (by simp [Tryz.ntmps60]) (by kernel_rfl) fun F w0 I0 => ?_
  simp only [↓rA, rB]
  refine fun b3 h3 => ?_; replace h3 := newb h3; try simp only [Nb] at h3
  simp only [↓rA, rB, Tryz.results60]
  refine EX_for Ty.mixed (by kernel_rfl) 0 (fun i S => S.boxes = [(b3, .c (cX x))] ∧ S.rows = [] ∧ S.σ 0 = nilS ∧ S.σ 3 = ptr b3 ∧ S.σ 6 = vint 0) ⟨0, ?_⟩ (fun i S hi _ => absurd hi (Nat.not_lt_zero i)) (fun S ⟨gb, gr, g0, g3, g6⟩ => ?_)
  · simp only [rB, Nat.reduceEqDiff, reduceCtorEq]
    first | done | exact rfl | exact ⟨rfl, rfl⟩
  · simp only [↓rA, rB, Int.reduceLT, Nat.reduceAdd, Nat.reduceEqDiff, Nat.reduceLT, Nat.reduceLeDiff, Nat.reduceMul, reduceCtorEq, tbOC0, gb, g0, g3, g6]
    intro y
    refine Or2.r ?_
    simp only [↓rA, rB, Nat.reduceAdd, Nat.reduceLT, Nat.reduceLeDiff, Nat.reduceMul, tbOC0, gb, gr]
    refine fun g c hg hc => ?_
    have n := newb hg
    simp only [↓rA, rB, Nat.reduceEqDiff, reduceCtorEq, tbOC0, gb, gr, g0]
    refine ⟨_, [(g, .c (cX x ++ anys ((c - 1) * 23)))], [], Le.refl _, ?_, List.nil_sublist _, _, rfl, .inr ⟨g, c, anys ((c - 1) * 23), by simp, hc, by simp [anys], rfl, by simp [bN, cNd_eq]⟩, rfl⟩
    exact List.Sublist.cons_cons _ (List.nil_sublist _)
set_option linter.defProp false in
def tbOC1 := (aI (aI (aI (aI (aI (aI Ty.sz3 (aI Ty.by3 Ty.ag3)) (aI Ty.zr3 (aI Ty.un3 Ty.sz4))) (aI (aI Ty.by4 (aI Ty.ag4 Ty.zr4)) (aI (aI Ty.un4 Ty.sz9) (aI Ty.by9 Ty.ag9)))) (aI (aI (aI Ty.zr9 (aI Ty.un9 Ty.sz22)) (aI (aI Ty.by22 Ty.ag22) (aI Ty.zr22 Ty.un22))) (aI (aI Ty.sz28 (aI Ty.by28 Ty.ag28)) (aI (aI Ty.zr28 Ty.fl28_0) (aI Ty.pl28_0 Ty.fl28_1))))) (aI (aI (aI (aI Ty.pl28_1 (aI Ty.fl28_2 Ty.pl28_2)) (aI Ty.sz29 (aI Ty.by29 Ty.ag29))) (aI (aI Ty.zr29 (aI Ty.un29 Ty.sz31)) (aI (aI Ty.by31 Ty.ag31) (aI Ty.zr31 Ty.fl31_0)))) (aI (aI (aI Ty.pl31_0 (aI Ty.fl31_1 Ty.pl31_1)) (aI (aI Ty.sz32 Ty.by32) (aI Ty.ag32 Ty.zr32))) (aI (aI Ty.un32 (aI Ty.sz34 Ty.by34)) (aI (aI Ty.ag34 Ty.zr34) (aI Ty.fl34_0 Ty.pl34_0)))))) (aI (aI (aI (aI (aI Ty.fl34_1 (aI Ty.pl34_1 Ty.fl34_2)) (aI Ty.pl34_2 (aI Ty.fl34_3 Ty.pl34_3))) (aI (aI Ty.fl34_4 (aI Ty.pl34_4 Ty.fl34_5)) (aI (aI Ty.pl34_5 Ty.fl34_6) (aI Ty.pl34_6 Ty.fl34_7)))) (aI (aI (aI Ty.pl34_7 (aI Ty.fl34_8 Ty.pl34_8)) (aI (aI Ty.sz45 Ty.by45) (aI Ty.ag45 Ty.zr45))) (aI (aI Ty.un45 (aI Ty.sz47 Ty.by47)) (aI (aI Ty.ag47 Ty.zr47) (aI Ty.fl47_0 Ty.pl47_0))))) (aI (aI (aI (aI Ty.fl47_1 (aI Ty.pl47_1 Ty.fl47_2)) (aI (aI Ty.pl47_2 Ty.fl47_3) (aI Ty.pl47_3 Ty.fl47_4))) (aI (aI Ty.pl47_4 (aI Ty.fl47_5 Ty.pl47_5)) (aI (aI Ty.fl47_6 Ty.pl47_6) (aI Ty.fl47_7 Ty.pl47_7)))) (aI (aI (aI Ty.fl47_8 (aI Ty.pl47_8 Ty.sz103)) (aI (aI Ty.by103 Ty.ag103) (aI Ty.zr103 Ty.fl103_0))) (aI (aI Ty.pl103_0 (aI Ty.fl103_1 Ty.pl103_1)) (aI (aI Ty.eq28 Ty.eq31) (aI Ty.eq103 Ty.cb42)))))))
theorem putR_ok (x : Nd) (L : List Nd) (hfl : ∀ n ∈ L, FitN n) (hL : L.length ≤ 1000000) (v : V) (bs0 : List (Nat × B)) (hs : Nl L v bs0) :
    Ok Tryz.prog 60 [v, .agg (cNd x)] bs0 fun w bs rs => ∃ u, w = .tup [u, vint (putM L x).2] ∧ Nl (putM L x).1 u bs ∧ rs = [] := by
  rcases hs with ⟨rfl, rfl, rfl⟩ | ⟨g0, c0, rest, hne, hc0, hre, rfl, rfl⟩
  · refine (putR_nil x).mono ?_
    rintro w bs rs ⟨u, rfl, h, rfl⟩
    exact ⟨u, rfl, by simpa [putM] using h, rfl⟩
  have hlen : ((L.map cNd).flatten ++ rest).length = c0 * 23 := by rw [List.length_append, nds_len, hre, Nat.sub_mul]; have := Nat.mul_le_mul_right 23 hc0; omega
  have hby : (L.length + 1) * 296 ≤ 140737488355328 := by omega
  simp only [cNd_eq]
  refine Ok.of_ex Ty.mixed Tryz.func60 rfl (by simp [Tryz.ntmps60]) (by kernel_rfl) fun F w0 I0 => ?_
  simp only [↓rA, rB]
  refine fun b3 h3 => ?_; replace h3 := newb h3; try simp only [Nb] at h3
  simp only [↓rA, rB, Tryz.results60]
  refine EX_for Ty.mixed (by kernel_rfl) L.length (fun i S => (∀ j (h : j < L.length), j < i → x ≠ L[j]) ∧ S.boxes = [(b3, .c (cX x)), (g0, bN L rest)] ∧ S.rows = [] ∧ S.σ 0 = slN g0 L.length c0 ∧ S.σ 3 = ptr b3 ∧ S.σ 6 = vint i) ⟨0, ?_⟩ (fun i S hi ⟨hn, gb, gr, g0', g3, g6⟩ => ?_) (fun S ⟨hn, gb, gr, g0', g3, g6⟩ => ?_)
  · simp only [rB, Nat.reduceEqDiff, reduceCtorEq]
    exact fun j _ h => absurd h (Nat.not_lt_zero j)
  · have hwi := wrap_succ (i := i) (N := L.length) hi (by omega)
    obtain ⟨A, Bx, hA, e⟩ := nd_cells L i hi rest
    have hq := sameNodeR_ok L[i] x (hfl _ (List.getElem_mem hi))
    simp only [cNd_eq] at hq
    unfold bN at gb
    rw [e] at gb
    simp only [↓rA, rB, Nat.reduceAdd, Nat.reduceEqDiff, Nat.reduceLeDiff, reduceCtorEq, tbOC1, gb, g0', g3, g6, h3, Int.ofNat_lt, hi, dropL hA, cNd_eq L[i]]
    refine CallV_of _ hq.v ?_
    by_cases hx : x = L[i]
    · have hm : x ∈ L := hx ▸ List.getElem_mem hi
      have hd : decide (L[i] = x) = true := decide_eq_true hx.symm
      simp only [↓rA, rB, Nat.reduceEqDiff, reduceCtorEq, gb, gr, g0', g6, hd]
      refine ⟨_, [_], [], Le.refl _, List.Sublist.cons _ (List.Sublist.refl _), List.nil_sublist _, _, ?_, .inr ⟨g0, c0, rest, by rw [putM_old hm]; exact hne, by rw [putM_old hm]; exact hc0, by rw [putM_old hm]; exact hre, by rw [putM_old hm], by rw [putM_old hm, bN, e, cNd_eq L[i]]⟩, rfl⟩
      rw [putM_old hm]
      simp only
      rw [idxM_at hi hn hx]
    · have hd : decide (L[i] = x) = false := decide_eq_false fun h => hx h.symm
      simp only [↓rA, rB, Nat.reduceEqDiff, reduceCtorEq, gb, gr, g0', g3, g6, hd, hwi]
      refine ⟨0, fun j h hj => ?_, by rw [bN, e, cNd_eq L[i]]; rfl⟩
      by_cases hji : j = i
      · subst hji; exact hx
      · exact hn j h (by omega)
  · have hm : x ∉ L := fun hm => by
      obtain ⟨j, hj, e⟩ := List.getElem_of_mem hm
      exact hn j hj hj e.symm
    simp only [↓rA, rB, Nat.reduceAdd, Nat.reduceEqDiff, Nat.reduceLT, Nat.reduceLeDiff, Nat.reduceMul, reduceCtorEq, tbOC1, gb, g0', g3, g6, Int.ofNat_lt, Nat.lt_irrefl]
    intro y
    refine Or2.r ?_
    simp only [↓rA, rB, Nat.reduceAdd, Nat.reduceLT, tbOC1, gb, gr, h3]
    refine ⟨⟨hlen, hc0, hby⟩, fun g c hg hc => ?_⟩
    have hrem : remB [(b3, B.c (cX x)), (g0, bN L rest)] g0 = [(b3, B.c (cX x))] := by
      simp [remB, h3.1.2]
    replace hg : ¬ g ∈ blks (remB [(b3, B.c (cX x)), (g0, bN L rest)] g0) _ := hg
    rw [hrem] at hg
    have n := newb hg
    simp only [↓rA, rB, Nat.reduceEqDiff, reduceCtorEq, tbOC1, gb, gr, g0']
    refine ⟨_, [(g, .c ((L.map cNd).flatten ++ (cX x ++ anys ((c - (L.length + 1)) * 23))))], [], Le.refl _, ?_, List.nil_sublist _, _, ?_, .inr ⟨g, c, anys ((c - (L.length + 1)) * 23), by rw [putM_new hm]; simp, by rw [putM_new hm]; simpa using hc, by rw [putM_new hm]; simp [anys], rfl, ?_⟩, rfl⟩
    · rw [hrem, List.take_left' (nds_len L), List.append_assoc]
      exact List.Sublist.cons_cons _ (List.nil_sublist _)
    · rw [putM_new hm]
      simp only [List.length_append, List.length_cons, List.length_nil]
    · rw [putM_new hm]
      simp [bN, cNd_eq]
end Go.Proofs.YtphkmlogjgeipaaGreatDoor

/- Contracts of the reference's lowering, part h: over, lower (seat of LowerMatchesRaise). -/
set_option linter.unusedSimpArgs false
set_option maxRecDepth 100000
namespace Go.Proofs.YtphkmlogjgeipaaGreatDoor
open Go.VL Go.Ar Go.Lo Go.Proofs.YtphkmlogjgeipaaGreatDoor
theorem putRF (n : Nd) (u a i : V) (hu : Le u (vFacs n.expr.hd.unit)) (ha : Le a (vEs n.expr.args)) (hi : Le i (vints n.inn)) (L : List Nd) (hfl : ∀ n ∈ L, FitN n) (hL : L.length ≤ 1000000) (v : V) (bs0 : List (Nat × B)) (hs : Nl L v bs0) (lf : List (Nat × B)) :
    Ok Tryz.prog 60 [v, .agg (cNu n u a i)] (lf ++ bs0) fun w bs rs => ∃ b1, bs = lf ++ b1 ∧ ((lf ++ b1).map (·.1)).Nodup ∧ ∃ u', w = .tup [u', vint (putM L n).2] ∧ Nl (putM L n).1 u' b1 ∧ rs = [] :=
  Ok.le (.cons (Le.refl _) (.cons (leN n hu ha hi) .nil)) (Ok.frame lf (putR_ok n L hfl hL v bs0 hs))
theorem fitN0 {n : Nd} (h : n.expr = exp0) (hi : n.inn.length ≤ 1) : FitN n := ⟨by rw [h]; exact fit0, by unfold big; omega⟩
set_option linter.defProp false in
def tbOD0 := (aI (aI (aI (aI (aI (aI Ty.sz3 (aI Ty.by3 Ty.ag3)) (aI Ty.zr3 (aI Ty.un3 Ty.sz9))) (aI (aI Ty.by9 (aI Ty.ag9 Ty.zr9)) (aI (aI Ty.un9 Ty.sz22) (aI Ty.by22 Ty.ag22)))) (aI (aI (aI Ty.zr22 (aI Ty.un22 Ty.sz28)) (aI Ty.by28 (aI Ty.ag28 Ty.zr28))) (aI (aI Ty.fl28_0 (aI Ty.pl28_0 Ty.fl28_1)) (aI (aI Ty.pl28_1 Ty.fl28_2) (aI Ty.pl28_2 Ty.sz29))))) (aI (aI (aI (aI Ty.by29 (aI Ty.ag29 Ty.zr29)) (aI Ty.un29 (aI Ty.sz31 Ty.by31))) (aI (aI Ty.ag31 (aI Ty.zr31 Ty.fl31_0)) (aI (aI Ty.pl31_0 Ty.fl31_1) (aI Ty.pl31_1 Ty.sz32)))) (aI (aI (aI Ty.by32 (aI Ty.ag32 Ty.zr32)) (aI (aI Ty.un32 Ty.sz34) (aI Ty.by34 Ty.ag34))) (aI (aI Ty.zr34 (aI Ty.fl34_0 Ty.pl34_0)) (aI (aI Ty.fl34_1 Ty.pl34_1) (aI Ty.fl34_2 Ty.pl34_2)))))) (aI (aI (aI (aI (aI Ty.fl34_3 (aI Ty.pl34_3 Ty.fl34_4)) (aI Ty.pl34_4 (aI Ty.fl34_5 Ty.pl34_5))) (aI (aI Ty.fl34_6 (aI Ty.pl34_6 Ty.fl34_7)) (aI (aI Ty.pl34_7 Ty.fl34_8) (aI Ty.pl34_8 Ty.sz45)))) (aI (aI (aI Ty.by45 (aI Ty.ag45 Ty.zr45)) (aI (aI Ty.un45 Ty.sz47) (aI Ty.by47 Ty.ag47))) (aI (aI Ty.zr47 (aI Ty.fl47_0 Ty.pl47_0)) (aI (aI Ty.fl47_1 Ty.pl47_1) (aI Ty.fl47_2 Ty.pl47_2))))) (aI (aI (aI (aI Ty.fl47_3 (aI Ty.pl47_3 Ty.fl47_4)) (aI Ty.pl47_4 (aI Ty.fl47_5 Ty.pl47_5))) (aI (aI Ty.fl47_6 (aI Ty.pl47_6 Ty.fl47_7)) (aI (aI Ty.pl47_7 Ty.fl47_8) (aI Ty.pl47_8 Ty.sz88)))) (aI (aI (aI Ty.by88 (aI Ty.ag88 Ty.sz103)) (aI (aI Ty.by103 Ty.ag103) (aI Ty.zr103 Ty.fl103_0))) (aI (aI Ty.pl103_0 (aI Ty.fl103_1 Ty.pl103_1)) (aI (aI Ty.eq28 Ty.eq31) (aI Ty.eq103 Ty.cb60)))))))
set_option maxHeartbeats 4000000 in
theorem overR_ok (hd : Hd) (a c : E) (r : List E) (fa : Fit a) (fc : Fit c) (L : List Nd) (hfl : ∀ n ∈ L, FitN n) (hL : L.length + 4 ≤ 1000000) (v : V) (bs0 : List (Nat × B)) (hs : Nl L v bs0) :
    Ok Tryz.prog 58 [v, .agg (cH hd (vEs (a :: c :: r)))] bs0 fun w bs rs => ∃ u, w = .tup [u, vint (overM L hd a c).2] ∧ Nl (overM L hd a c).1 u bs ∧ rs = [] := by
  refine Ok.of_ex Ty.mixed Tryz.func58 rfl (by simp [Tryz.ntmps58]) (by kernel_rfl) fun F w0 I0 => ?_
  simp only [↓rA, rB]
  refine fun b3 h3 => ?_; replace h3 := newb h3; try simp only [Nb] at h3
  unfold overM
  have l1 := putM_len L { nd0 1 with table := hd.table }
  have f1 := putM_all hfl (n := { nd0 1 with table := hd.table }) (fitN0 rfl (Nat.zero_le _))
  simp only [↓rA, rB, Nat.reduceAdd, Nat.reduceEqDiff, Nat.reduceLeDiff, reduceCtorEq, tbOD0]
  refine OkF_with _ [] (List.Perm.of_eq (List.append_nil _).symm) (putRF { nd0 1 with table := hd.table } nilS nilS nilS (Le.nil 2) (Le.nil 12) (Le.nil 1) L hfl (by omega) v bs0 hs [_]) ?_
  rintro w bs rs ⟨b1, rfl, _, u1, rfl, hs1, rfl⟩
  generalize putM L { nd0 1 with table := hd.table } = p at l1 hs1 f1 ⊢
  try simp only
  have i1 : (1 : Int) < ((r.length + 1 + 1 : Nat) : Int) := by omega
  have i0 : (0 : Int) < ((r.length + 1 + 1 : Nat) : Int) := by omega
  simp only [↓rA, rB, Int.reduceLE, Int.reduceToNat, Nat.reduceAdd, Nat.reduceEqDiff, Nat.reduceLT, Nat.reduceLeDiff, Nat.reduceMul, reduceCtorEq, tbOD0, cE_eq a, cE_eq c, List.length_map, i1]
  intro y1
  refine OkF_with _ [] (List.Perm.of_eq (List.append_nil _).symm) (putRF { nd0 2 with expr := c, inn := [(p.2 : Int)] } (vFacs c.hd.unit) (vEs c.args) _ (Le.refl _) (Le.refl _) (Le.list _ _ _) p.1 f1 (by omega) u1 b1 hs1 [_]) ?_
  rintro w bs rs ⟨b2, rfl, _, u2, rfl, hs2, rfl⟩
  have l2 := putM_len p.1 { nd0 2 with expr := c, inn := [(p.2 : Int)] }
  have f2 := putM_all f1 (n := { nd0 2 with expr := c, inn := [(p.2 : Int)] }) ⟨fc, by simp [big]⟩
  generalize putM p.1 { nd0 2 with expr := c, inn := [(p.2 : Int)] } = q at l2 hs2 f2 ⊢
  try simp only
  simp only [↓rA, rB, Int.reduceToNat, Nat.reduceAdd, Nat.reduceEqDiff, Nat.reduceLT, Nat.reduceLeDiff, Nat.reduceMul, reduceCtorEq, tbOD0, cE_eq a, cE_eq c, List.length_map, i0]
  intro y2
  refine OkF_with _ [] (List.Perm.of_eq (List.append_nil _).symm) (putRF { nd0 3 with expr := a, inn := [(q.2 : Int)] } (vFacs a.hd.unit) (vEs a.args) _ (Le.refl _) (Le.refl _) (Le.list _ _ _) q.1 f2 (by omega) u2 b2 hs2 [_]) ?_
  rintro w bs rs ⟨b4, rfl, _, u3, rfl, hs3, rfl⟩
  have l3 := putM_len q.1 { nd0 3 with expr := a, inn := [(q.2 : Int)] }
  have f3 := putM_all f2 (n := { nd0 3 with expr := a, inn := [(q.2 : Int)] }) ⟨fa, by simp [big]⟩
  generalize putM q.1 { nd0 3 with expr := a, inn := [(q.2 : Int)] } = t at l3 hs3 f3 ⊢
  try simp only
  simp only [↓rA, rB, Nat.reduceAdd, Nat.reduceEqDiff, Nat.reduceLT, Nat.reduceLeDiff, Nat.reduceMul, reduceCtorEq, tbOD0, cE_eq a, cE_eq c]
  intro y3
  refine OkF_with _ [] (List.Perm.of_eq (List.append_nil _).symm) (putRF { nd0 4 with op := hd.op, param := hd.param, wk := hd.wk, ws := hd.ws, inn := [(t.2 : Int)] } nilS nilS _ (Le.nil 2) (Le.nil 12) (Le.list _ _ _) t.1 f3 (by omega) u3 b4 hs3 [_]) ?_
  rintro w bs rs ⟨b5, rfl, _, u4, rfl, hs4, rfl⟩
  generalize putM t.1 { nd0 4 with op := hd.op, param := hd.param, wk := hd.wk, ws := hd.ws, inn := [(t.2 : Int)] } = z at hs4 ⊢
  simp only [↓rA, rB, Nat.reduceEqDiff, Tryz.results58]
  exact ⟨_, b5, [], Le.refl _, List.Sublist.cons _ (List.Sublist.refl _), List.nil_sublist _, u4, rfl, hs4, rfl⟩
set_option linter.defProp false in
def tbOD1 := (aI (aI (aI (aI (aI (aI Ty.sz3 (aI Ty.by3 Ty.ag3)) (aI Ty.zr3 (aI Ty.un3 Ty.sz4))) (aI (aI Ty.by4 (aI Ty.ag4 Ty.zr4)) (aI Ty.un4 (aI Ty.sz9 Ty.by9)))) (aI (aI (aI Ty.ag9 (aI Ty.zr9 Ty.un9)) (aI Ty.sz28 (aI Ty.by28 Ty.ag28))) (aI (aI Ty.zr28 (aI Ty.fl28_0 Ty.pl28_0)) (aI (aI Ty.fl28_1 Ty.pl28_1) (aI Ty.fl28_2 Ty.pl28_2))))) (aI (aI (aI (aI Ty.sz29 (aI Ty.by29 Ty.ag29)) (aI Ty.zr29 (aI Ty.un29 Ty.sz31))) (aI (aI Ty.by31 (aI Ty.ag31 Ty.zr31)) (aI (aI Ty.fl31_0 Ty.pl31_0) (aI Ty.fl31_1 Ty.pl31_1)))) (aI (aI (aI Ty.sz32 (aI Ty.by32 Ty.ag32)) (aI Ty.zr32 (aI Ty.un32 Ty.sz34))) (aI (aI Ty.by34 (aI Ty.ag34 Ty.zr34)) (aI (aI Ty.fl34_0 Ty.pl34_0) (aI Ty.fl34_1 Ty.pl34_1)))))) (aI (aI (aI (aI (aI Ty.fl34_2 (aI Ty.pl34_2 Ty.fl34_3)) (aI Ty.pl34_3 (aI Ty.fl34_4 Ty.pl34_4))) (aI (aI Ty.fl34_5 (aI Ty.pl34_5 Ty.fl34_6)) (aI (aI Ty.pl34_6 Ty.fl34_7) (aI Ty.pl34_7 Ty.fl34_8)))) (aI (aI (aI Ty.pl34_8 (aI Ty.sz45 Ty.by45)) (aI Ty.ag45 (aI Ty.zr45 Ty.un45))) (aI (aI Ty.sz47 (aI Ty.by47 Ty.ag47)) (aI (aI Ty.zr47 Ty.fl47_0) (aI Ty.pl47_0 Ty.fl47_1))))) (aI (aI (aI (aI Ty.pl47_1 (aI Ty.fl47_2 Ty.pl47_2)) (aI Ty.fl47_3 (aI Ty.pl47_3 Ty.fl47_4))) (aI (aI Ty.pl47_4 (aI Ty.fl47_5 Ty.pl47_5)) (aI (aI Ty.fl47_6 Ty.pl47_6) (aI Ty.fl47_7 Ty.pl47_7)))) (aI (aI (aI Ty.fl47_8 (aI Ty.pl47_8 Ty.sz103)) (aI Ty.by103 (aI Ty.ag103 Ty.zr103))) (aI (aI Ty.fl103_0 (aI Ty.pl103_0 Ty.fl103_1)) (aI (aI Ty.pl103_1 Ty.eq28) (aI Ty.eq31 Ty.eq103)))))))
theorem ownN_ok (h : Hd) (l : List E) : Ok Tryz.prog 59 [vE (.mk h l)] [] fun v bs rs => (∃ u a, Le u (vFacs (ownM h l).expr.hd.unit) ∧ Le a (vEs (ownM h l).expr.args) ∧ v = .agg (cNu (ownM h l) u a nilS) ∧ (∀ r, okC (u :: r) = okC r) ∧ ∀ r, okC (a :: r) = okC r) ∧ bs = [] ∧ rs = [] := by
  have fin : ∀ (n : Nd) (u a : V) (X : List (Nat × B)) (Y : List Row), ownM h l = n → Le u (vFacs n.expr.hd.unit) → Le a (vEs n.expr.args) → (∀ r, okC (u :: r) = okC r) → (∀ r, okC (a :: r) = okC r) →
      ∃ v bs' rs', Le (.agg (cNu n u a nilS)) v ∧ bs'.Sublist X ∧ rs'.Sublist Y ∧ (∃ u a, Le u (vFacs (ownM h l).expr.hd.unit) ∧ Le a (vEs (ownM h l).expr.args) ∧ v = .agg (cNu (ownM h l) u a nilS) ∧ (∀ r, okC (u :: r) = okC r) ∧ ∀ r, okC (a :: r) = okC r) ∧ bs' = [] ∧ rs' = [] := fun n u a X Y hn hu ha ku ka =>
    ⟨_, [], [], Le.refl _, List.nil_sublist _, List.nil_sublist _, ⟨u, a, by rw [hn]; exact hu, by rw [hn]; exact ha, by rw [hn], ku, ka⟩, rfl, rfl⟩
  have z2 := Le.nil 2
  have z12 := Le.nil 12
  rw [vE, cE_mk]
  refine Ok.of_ex Ty.mixed Tryz.func59 rfl (by simp [Tryz.ntmps59]) (by kernel_rfl) fun F w0 I0 => ?_
  simp only [↓rA, rB]
  refine fun b1 h1 => ?_; replace h1 := newb h1; try simp only [Nb] at h1
  simp only [↓rA, rB, tbOD1]
  refine fun b2 h2 => ?_; replace h2 := newb h2; try simp only [Nb] at h2
  by_cases e1 : h.kind = 1
  · obtain ⟨k, op, na, ta, va, un, pa, wk, ws⟩ := h
    obtain rfl : k = 1 := e1
    simp only [↓rA, rB, Nat.reduceAdd, Nat.reduceEqDiff, Nat.reduceLeDiff, tbOD1, Tryz.results59, h2]
    exact fin { nd0 5 with val := va, expr := .mk ⟨1, op, na, ta, va, un, pa, wk, ws⟩ l } _ _ _ _ (by simp [ownM]) (Le.refl _) (Le.refl _) (fun _ => rfl) (fun _ => rfl)
  by_cases e3 : h.kind = 3
  · simp only [↓rA, rB, Int.reduceEq, Nat.reduceAdd, Nat.reduceEqDiff, Nat.reduceLeDiff, tbOD1, Tryz.results59, h2, e3]
    exact fin { nd0 6 with name := h.name } _ _ _ _ (by simp [ownM, e3]) z2 z12 (fun _ => rfl) (fun _ => rfl)
  by_cases e4 : h.kind = 4
  · simp only [↓rA, rB, Int.reduceEq, Nat.reduceAdd, Nat.reduceEqDiff, Nat.reduceLeDiff, tbOD1, Tryz.results59, h2, e4]
    exact fin { nd0 7 with name := h.name } _ _ _ _ (by simp [ownM, e4]) z2 z12 (fun _ => rfl) (fun _ => rfl)
  by_cases e8 : h.kind = 8
  · simp only [↓rA, rB, Int.reduceEq, Nat.reduceAdd, Nat.reduceEqDiff, Nat.reduceLeDiff, tbOD1, Tryz.results59, h2, e8]
    exact fin { nd0 8 with op := sIf } _ _ _ _ (by simp [ownM, e8]) z2 z12 (fun _ => rfl) (fun _ => rfl)
  by_cases e9 : h.kind = 9
  · simp only [↓rA, rB, Int.reduceEq, Nat.reduceAdd, Nat.reduceEqDiff, Nat.reduceLeDiff, tbOD1, Tryz.results59, h2, e9]
    exact fin { nd0 8 with op := sDefault } _ _ _ _ (by simp [ownM, e9]) z2 z12 (fun _ => rfl) (fun _ => rfl)
  simp only [↓rA, rB, Nat.reduceAdd, Nat.reduceEqDiff, Nat.reduceLeDiff, tbOD1, Tryz.results59, h2, e1, e3, e4, e8, e9]
  exact fin { nd0 8 with op := h.op } _ _ _ _ (by simp [ownM, e1, e3, e4, e8, e9]) z2 z12 (fun _ => rfl) (fun _ => rfl)
set_option linter.defProp false in
def tbOD2 := (aI (aI (aI (aI (aI (aI Ty.sz3 (aI Ty.by3 Ty.ag3)) (aI (aI Ty.zr3 Ty.un3) (aI Ty.sz4 Ty.by4))) (aI (aI Ty.ag4 (aI Ty.zr4 Ty.un4)) (aI (aI Ty.sz9 Ty.by9) (aI Ty.ag9 Ty.zr9)))) (aI (aI (aI Ty.un9 (aI Ty.sz22 Ty.by22)) (aI (aI Ty.ag22 Ty.zr22) (aI Ty.un22 Ty.sz28))) (aI (aI Ty.by28 (aI Ty.ag28 Ty.zr28)) (aI (aI Ty.fl28_0 Ty.pl28_0) (aI Ty.fl28_1 Ty.pl28_1))))) (aI (aI (aI (aI Ty.fl28_2 (aI Ty.pl28_2 Ty.sz29)) (aI (aI Ty.by29 Ty.ag29) (aI Ty.zr29 Ty.un29))) (aI (aI Ty.sz31 (aI Ty.by31 Ty.ag31)) (aI (aI Ty.zr31 Ty.fl31_0) (aI Ty.pl31_0 Ty.fl31_1)))) (aI (aI (aI Ty.pl31_1 (aI Ty.sz32 Ty.by32)) (aI (aI Ty.ag32 Ty.zr32) (aI Ty.un32 Ty.sz34))) (aI (aI (aI Ty.by34 Ty.ag34) (aI Ty.zr34 Ty.fl34_0)) (aI (aI Ty.pl34_0 Ty.fl34_1) (aI Ty.pl34_1 Ty.fl34_2)))))) (aI (aI (aI (aI (aI Ty.pl34_2 (aI Ty.fl34_3 Ty.pl34_3)) (aI (aI Ty.fl34_4 Ty.pl34_4) (aI Ty.fl34_5 Ty.pl34_5))) (aI (aI Ty.fl34_6 (aI Ty.pl34_6 Ty.fl34_7)) (aI (aI Ty.pl34_7 Ty.fl34_8) (aI Ty.pl34_8 Ty.sz45)))) (aI (aI (aI Ty.by45 (aI Ty.ag45 Ty.zr45)) (aI (aI Ty.un45 Ty.sz47) (aI Ty.by47 Ty.ag47))) (aI (aI (aI Ty.zr47 Ty.fl47_0) (aI Ty.pl47_0 Ty.fl47_1)) (aI (aI Ty.pl47_1 Ty.fl47_2) (aI Ty.pl47_2 Ty.fl47_3))))) (aI (aI (aI (aI Ty.pl47_3 (aI Ty.fl47_4 Ty.pl47_4)) (aI (aI Ty.fl47_5 Ty.pl47_5) (aI Ty.fl47_6 Ty.pl47_6))) (aI (aI Ty.fl47_7 (aI Ty.pl47_7 Ty.fl47_8)) (aI (aI Ty.pl47_8 Ty.sz88) (aI Ty.by88 Ty.ag88)))) (aI (aI (aI Ty.sz103 (aI Ty.by103 Ty.ag103)) (aI (aI Ty.zr103 Ty.fl103_0) (aI Ty.pl103_0 Ty.fl103_1))) (aI (aI (aI Ty.pl103_1 Ty.eq28) (aI Ty.eq31 Ty.eq103)) (aI (aI Ty.cb41 Ty.cb58) (aI Ty.cb59 Ty.cb60)))))))
set_option maxHeartbeats 4000000 in
theorem lowerR_ok : ∀ x : E, Fit x → Agg2 x → ∀ (L : List Nd), (∀ n ∈ L, FitN n) → L.length + 4 * sizeE x ≤ 1000000 → ∀ (v : V) (bs0 : List (Nat × B)), Nl L v bs0 →
    Ok Tryz.prog 41 [v, vE x] bs0 fun w bs rs => ∃ u, w = .tup [u, vint (lowE L x).2] ∧ Nl (lowE L x).1 u bs ∧ rs = [] := by
  intro x
  induction x using E.ind with
  | h hd l ih =>
  intro hf hg L hfl hL v bs0 hs
  have hl := hf.len
  have hu := hf.unit
  have ha := hf.args
  simp only [E.args, E.hd, big] at hl ha hu
  have hown := ownN_ok hd l
  rw [vE, cE_mk] at hown ⊢
  refine Ok.of_ex Ty.mixed Tryz.func41 rfl (by simp [Tryz.ntmps41]) (by kernel_rfl) fun F w0 I0 => ?_
  simp only [↓rA, rB]
  refine fun b3 h3 => ?_; replace h3 := newb h3; try simp only [Nb] at h3
  by_cases e : hd.kind = 5
  · have h2 : 2 ≤ l.length := by cases hg with | mk _ _ hk _ => exact hk e
    match l, h2 with
    | a :: c :: r, _ =>
    have hov : lowE L (.mk hd (a :: c :: r)) = overM L hd a c := lowE_agg L hd a c r e
    rw [hov]
    have hL4 : L.length + 4 ≤ 1000000 := by rw [sizeE_mk] at hL; omega
    have ho := overR_ok hd a c r (ha a (by simp)) (ha c (by simp)) L hfl hL4 v bs0 hs
    have e' : (hd.kind = 5) = True := eq_true e
    simp only [↓rA, rB, Nat.reduceAdd, Nat.reduceEqDiff, reduceCtorEq, tbOD2, e']
    refine OkF_with _ [] (List.Perm.of_eq (List.append_nil _).symm) (Ok.frame [_] ho) ?_
    rintro w bs rs ⟨b1, rfl, _, u1, rfl, hs1, rfl⟩
    simp only [↓rA, rB, Nat.reduceEqDiff, Tryz.results41]
    exact ⟨_, b1, [], Le.refl _, List.Sublist.cons _ (List.Sublist.refl _), List.nil_sublist _, u1, rfl, hs1, rfl⟩
  · have hop : lowE L (.mk hd l) = putM (lowEs L l).1 { ownM hd l with inn := (lowEs L l).2 } := lowE_op L hd l e
    rw [hop]
    rw [sizeE_mk] at hL
    have hga : ∀ z ∈ l, Agg2 z := by cases hg with | mk _ _ _ h => exact h
    simp only [↓rA, rB, Nat.reduceAdd, Nat.reduceEqDiff, tbOD2, e]
    refine OkF_with [] _ (List.Perm.refl _) hown ?_
    rintro w bs rs ⟨⟨u, a, hlu, hla, rfl, ku, ka⟩, rfl, rfl⟩
    have fo : Fit (ownM hd l).expr := by
      unfold ownM
      repeat' split
      all_goals first | exact hf | exact fit0
    generalize hno : ownM hd l = no at hlu hla fo ⊢
    simp only [↓rA, rB, tbOD2]
    refine fun b6 h6 => ?_; replace h6 := newb h6; try simp only [Nb] at h6
    simp only [↓rA, rB, Nat.reduceAdd, Nat.reduceEqDiff, tbOD2, Tryz.results41, ku, ka]
    refine EX_nilB (cs' := cNu no u a (.list (some nilv) 1 [])) (k := 1) (e := 3) [] ((b3, .c (cH hd (vEs l))) :: bs0) (by simp only [rB]; try rfl) (leNi no u a) (by decide) ?_
    refine EX_forS Ty.mixed (by kernel_rfl) l.length (fun i S => ∃ y bs1 v', S.boxes = (b6, .c (cNu no u a (.list (some y) 1 ((lowEs L (l.take i)).2.map fun k => [vint k])))) :: (b3, .c (cH hd (vEs l))) :: bs1 ∧ Nl (lowEs L (l.take i)).1 v' bs1 ∧ (∀ n ∈ (lowEs L (l.take i)).1, FitN n) ∧ S.rows = [⟨y, 1, 3⟩] ∧ S.σ 0 = v' ∧ S.σ 3 = ptr b3 ∧ S.σ 6 = ptr b6 ∧ S.σ 7 = vint i) ⟨_, _, List.Sublist.refl _, List.Sublist.refl _, ?_⟩ (fun i S hi ⟨y, bs1, v', gb, hs1, hf1, gr, g0, g3, g6, g7⟩ => ?_) (fun S ⟨y, bs1, v', gb, hs1, hf1, gr, g0, g3, g6, g7⟩ => ?_)
    · simp only [rB, Nat.reduceEqDiff, reduceCtorEq]
      exact ⟨nilv, bs0, v, rfl, hs, hfl, rfl, rfl⟩
    · have hwi := wrap_succ (i := i) (N := l.length) hi (by omega)
      have hx := List.getElem_mem hi
      have hh := And.intro h3 h6
      have hlen : (lowEs L (l.take i)).1.length + 4 * sizeE l[i] ≤ 1000000 := by
        have h1 := lowEs_len (l.take i) L
        have h2 : sizeEs (l.take (i + 1)) ≤ sizeEs l := by
          conv => rhs; rw [← List.take_append_drop (i + 1) l]
          rw [sizeEs_append]; omega
        rw [List.take_succ_eq_append_getElem hi, sizeEs_append] at h2
        have h4 : sizeEs [l[i]] = sizeE l[i] := by simp [sizeEs]
        omega
      have hstep : lowEs L (l.take (i + 1)) = ((lowE (lowEs L (l.take i)).1 l[i]).1, (lowEs L (l.take i)).2 ++ [((lowE (lowEs L (l.take i)).1 l[i]).2 : Int)]) := by
        rw [List.take_succ_eq_append_getElem hi, lowEs_append]
        simp only [lowEs]
      have hfit := low_fit l[i] (ha _ hx) _ hf1
      have hkl : (lowEs L (l.take i)).2.length = i := by rw [lowEs_ks, List.length_take]; omega
      have hc := ih l[i] hx (ha _ hx) (hga _ hx) _ hf1 hlen v' bs1 hs1
      rw [hstep]
      generalize lowEs L (l.take i) = q at *
      generalize lowE q.1 l[i] = p at *
      rw [vE, cE_eq] at hc
      simp only [↓rA, rB, Nat.reduceAdd, Nat.reduceEqDiff, reduceCtorEq, tbOD2, gb, g0, g3, g7, hh, Int.ofNat_lt, hi, List.length_map, getD_map _ _ _ hi, cE_eq]
      refine OkF_with _ [] (List.Perm.of_eq (List.append_nil _).symm) (Ok.frame [_, _] hc) ?_
      rintro w bs rs ⟨b1, rfl, _, u1, rfl, hs2, rfl⟩
      simp only [↓rA, rB, Nat.reduceAdd, Nat.reduceEqDiff, Nat.reduceLT, Nat.reduceLeDiff, Nat.reduceMul, reduceCtorEq, tbOD2, gr, g6]
      intro y5
      refine takeRF_2 ?_
      have hb8 : (q.2.length + 1) * 8 ≤ 140737488355328 := by omega
      simp only [↓rA, rB, Nat.reduceAdd, Nat.reduceEqDiff, reduceCtorEq, tbOD2, gr, g6, g7, List.length_map, hb8, hwi]
      intro y6
      refine ⟨(b6, .c (cNu no u a (.list (some y6) 1 ((q.2.map fun k => [vint k]) ++ [[vint p.2]])))) :: (b3, .c (cH hd (vEs l))) :: b1, [⟨y6, 1, 3⟩], List.Sublist.refl _, List.Sublist.cons_cons _ (List.nil_sublist _), y6, b1, u1, ?_, hs2, hfit, ?_⟩
      · rw [List.map_append]; rfl
      · simp only [rB, Nat.reduceEqDiff, reduceCtorEq, g3, g6]
    · have hll := lowEs_len l L
      have hks2 := lowEs_ks l L
      rw [List.take_of_length_le (Nat.le_refl _)] at hs1 gb hf1
      generalize lowEs L l = q at *
      have hh := And.intro h3 h6
      simp only [↓rA, rB, Nat.reduceAdd, Nat.reduceEqDiff, reduceCtorEq, tbOD2, gb, g0, g3, g6, g7, hh, Int.ofNat_lt, Nat.lt_irrefl, List.length_map]
      have fin : FitN { no with inn := q.2 } := ⟨fo, by simp only; rw [hks2]; exact hl⟩
      refine OkF_with _ [] (List.Perm.of_eq (List.append_nil _).symm) (putRF { no with inn := q.2 } u a (.list (some y) 1 (q.2.map fun k => [vint k])) hlu hla (Le.list _ _ _) q.1 hf1 (by omega) v' bs1 hs1 [_, _]) ?_
      rintro w bs rs ⟨b1, rfl, _, u1, rfl, hs4, rfl⟩
      generalize putM q.1 { no with inn := q.2 } = z at hs4 ⊢
      simp only [↓rA, rB, Nat.reduceEqDiff, gr]
      exact ⟨_, b1, [], Le.refl _, List.Sublist.cons _ (List.Sublist.cons _ (List.Sublist.refl _)), List.nil_sublist _, u1, rfl, hs4, rfl⟩
end Go.Proofs.YtphkmlogjgeipaaGreatDoor

/- Contracts of the reference's lowering, part i: Graph (seat of LowerMatchesRaise). -/
set_option linter.unusedSimpArgs false
set_option maxRecDepth 100000
namespace Go.Proofs.YtphkmlogjgeipaaGreatDoor
open Go.VL Go.Ar Go.Lo Go.Proofs.YtphkmlogjgeipaaGreatDoor
set_option linter.defProp false in
def tbOE0 := (aI (aI (aI (aI (aI (aI Ty.sz3 (aI Ty.by3 Ty.ag3)) (aI (aI Ty.zr3 Ty.un3) (aI Ty.sz4 Ty.by4))) (aI (aI (aI Ty.ag4 Ty.zr4) (aI Ty.un4 Ty.sz9)) (aI (aI Ty.by9 Ty.ag9) (aI Ty.zr9 Ty.un9)))) (aI (aI (aI (aI Ty.sz22 Ty.by22) (aI Ty.ag22 Ty.zr22)) (aI (aI Ty.un22 Ty.sz24) (aI Ty.by24 Ty.ag24))) (aI (aI (aI Ty.zr24 Ty.fl24_0) (aI Ty.pl24_0 Ty.sz28)) (aI (aI Ty.by28 Ty.ag28) (aI Ty.zr28 Ty.fl28_0))))) (aI (aI (aI (aI Ty.pl28_0 (aI Ty.fl28_1 Ty.pl28_1)) (aI (aI Ty.fl28_2 Ty.pl28_2) (aI Ty.sz29 Ty.by29))) (aI (aI (aI Ty.ag29 Ty.zr29) (aI Ty.un29 Ty.sz31)) (aI (aI Ty.by31 Ty.ag31) (aI Ty.zr31 Ty.fl31_0)))) (aI (aI (aI (aI Ty.pl31_0 Ty.fl31_1) (aI Ty.pl31_1 Ty.sz32)) (aI (aI Ty.by32 Ty.ag32) (aI Ty.zr32 Ty.un32))) (aI (aI (aI Ty.sz34 Ty.by34) (aI Ty.ag34 Ty.zr34)) (aI (aI Ty.fl34_0 Ty.pl34_0) (aI Ty.fl34_1 Ty.pl34_1)))))) (aI (aI (aI (aI (aI Ty.fl34_2 (aI Ty.pl34_2 Ty.fl34_3)) (aI (aI Ty.pl34_3 Ty.fl34_4) (aI Ty.pl34_4 Ty.fl34_5))) (aI (aI (aI Ty.pl34_5 Ty.fl34_6) (aI Ty.pl34_6 Ty.fl34_7)) (aI (aI Ty.pl34_7 Ty.fl34_8) (aI Ty.pl34_8 Ty.sz35)))) (aI (aI (aI (aI Ty.by35 Ty.ag35) (aI Ty.zr35 Ty.un35)) (aI (aI Ty.sz45 Ty.by45) (aI Ty.ag45 Ty.zr45))) (aI (aI (aI Ty.un45 Ty.sz47) (aI Ty.by47 Ty.ag47)) (aI (aI Ty.zr47 Ty.fl47_0) (aI Ty.pl47_0 Ty.fl47_1))))) (aI (aI (aI (aI Ty.pl47_1 (aI Ty.fl47_2 Ty.pl47_2)) (aI (aI Ty.fl47_3 Ty.pl47_3) (aI Ty.fl47_4 Ty.pl47_4))) (aI (aI (aI Ty.fl47_5 Ty.pl47_5) (aI Ty.fl47_6 Ty.pl47_6)) (aI (aI Ty.fl47_7 Ty.pl47_7) (aI Ty.fl47_8 Ty.pl47_8)))) (aI (aI (aI (aI Ty.sz88 Ty.by88) (aI Ty.ag88 Ty.sz103)) (aI (aI Ty.by103 Ty.ag103) (aI Ty.zr103 Ty.fl103_0))) (aI (aI (aI Ty.pl103_0 Ty.fl103_1) (aI Ty.pl103_1 Ty.eq28)) (aI (aI Ty.eq31 Ty.eq103) (aI Ty.cb40 Ty.cb41)))))))
theorem graphR_raw (x : E) (hf : Fit x) (hb : depthE x ≤ big) : Ok Tryz.prog 24 [vE x] [] fun v bs rs => (v = .tup [vG (graphC x), vint (shapeC x)] ∧ bs = [] ∧ rs = []) ∨
    (shapeC x = 0 ∧ ∃ g c rest, v = .tup [.agg [slN g (lowE [] x).1.length c], vint 0] ∧ (lowE [] x).1.length ≤ c ∧ bs = [(g, bN (lowE [] x).1 rest)] ∧ rs = []) := by
  have hsh := shapeR_ok x hf hb
  have hxe := cE_eq x
  have hlo := lowerR_ok x hf
  rw [vE, hxe] at hsh hlo ⊢
  refine Ok.of_ex Ty.mixed Tryz.func24 rfl (by simp [Tryz.ntmps24]) (by kernel_rfl) fun F w0 I0 => ?_
  simp only [↓rA, rB]
  refine fun b1 h1 => ?_; replace h1 := newb h1; try simp only [Nb] at h1
  simp only [↓rA, rB, tbOE0]
  refine fun b2 h2 => ?_; replace h2 := newb h2; try simp only [Nb] at h2
  simp only [↓rA, rB, Nat.reduceAdd, Nat.reduceEqDiff, tbOE0, h2]
  refine OkF_of _ hsh ?_
  by_cases e : shapeC x = 0
  case neg =>
    simp only [↓rA, rB, Nat.reduceEqDiff, tbOE0, Tryz.results24, e]
    have hg : graphC x = [] := by rw [graphC, if_neg e]
    exact ⟨_, [], [], leTup (.cons (leAgg (.cons (Le.nil 23) .nil)) (.cons (Le.refl _) .nil)), List.nil_sublist _, List.nil_sublist _, by rw [hg]; rfl, rfl, rfl⟩
  obtain ⟨p1, p2, p3⟩ := shape_parts e
  simp only [↓rA, rB, Nat.reduceAdd, Nat.reduceEqDiff, tbOE0, h2, e]
  refine OkF_withN [] _ (List.Perm.refl _) (hlo (proper_agg2 x false p3) [] (fun n hn => by cases hn) (by simp only [List.length_nil]; omega) nilS [] (.inl ⟨rfl, rfl, rfl⟩)) ?_
  rintro w bs rs ⟨u, rfl, hs, rfl⟩ hN
  rcases hs with ⟨hn, rfl, rfl⟩ | ⟨g, c, rest, hne, hc, hr, rfl, rfl⟩
  · simp only [↓rA, rB, Nat.reduceEqDiff, tbOE0, Tryz.results24]
    have hg : graphC x = [] := by rw [graphC, if_pos e, hn]
    exact ⟨_, [], [], leTup (.cons (leAgg (.cons (Le.nil 23) .nil)) (.cons (Le.refl _) .nil)), List.nil_sublist _, List.nil_sublist _, .inl ⟨by rw [hg, e]; rfl, rfl, rfl⟩⟩
  · simp only [List.cons_append, List.nil_append, List.map_cons, List.map_nil, List.nodup_cons, List.mem_cons, List.not_mem_nil, or_false, not_or, List.nodup_nil, not_false_eq_true, and_true] at hN
    have n2 : g ≠ b2 ∧ b2 ≠ g := ⟨hN.1.1, fun e => hN.1.1 e.symm⟩
    simp only [↓rA, rB, Nat.reduceEqDiff, tbOE0, Tryz.results24, n2]
    exact ⟨_, [_], [], Le.refl _, List.Sublist.cons_cons _ (List.nil_sublist _), List.nil_sublist _, .inr ⟨e, g, c, rest, rfl, hc, rfl, rfl⟩⟩
theorem graphR_ok (x : E) (hf : Fit x) (hb : depthE x ≤ big) : OkP Tryz.prog 24 [vE x] (.tup [vG (graphC x), vint (shapeC x)]) := by
  refine Ok.norows' (Q := fun v bs rs => bs = [] ∧ rs = [] ∧ (v = .tup [vG (graphC x), vint (shapeC x)] ∨ ∃ y, v = .tup [.agg [.list (some y) 23 ((graphC x).map cNd)], vint (shapeC x)])) (Ok.freeze (graphR_raw x hf hb) fun v bs rs h => ?_) fun v bs rs h => ?_
  · rcases h with ⟨rfl, rfl, rfl⟩ | ⟨e, g, c, rest, rfl, hc, rfl, rfl⟩
    · exact .inl ⟨rfl, rfl, .inl rfl⟩
    · have hg : graphC x = (lowE [] x).1 := by rw [graphC, if_pos e]
      refine .inr ⟨g, (lowE [] x).1.length, c, 23, _, (lowE [] x).1.map cNd, [], .tup [.agg [.list (some (.slice (some ⟨g, 0, none⟩) (lowE [] x).1.length c)) 23 ((lowE [] x).1.map cNd)], vint 0], List.Perm.refl _, ⟨List.take_left' (nds_len _), fun e he => by obtain ⟨n, _, rfl⟩ := List.mem_map.1 he; rfl, by simp, hc⟩, .tup (.cons (.agg (.cons .here .nil)) (.cons (.same _) .nil)), rfl, rfl, .inr ⟨.slice (some ⟨g, 0, none⟩) (lowE [] x).1.length c, ?_⟩⟩
      rw [hg, e]
  · obtain ⟨rfl, rfl, rfl | ⟨y, rfl⟩⟩ := h
    · exact ⟨_, [], [], Le.refl _, List.nil_sublist _, List.nil_sublist _, rfl, rfl, rfl⟩
    · exact ⟨_, [], [], leTup (.cons (leAgg (.cons (Le.list _ _ _) .nil)) (.cons (Le.refl _) .nil)), List.nil_sublist _, List.nil_sublist _, rfl, rfl, rfl⟩
end Go.Proofs.YtphkmlogjgeipaaGreatDoor

/- Contracts of the reference's lowering, part c: the sizes of a graph's nodes, up to a bound (seat of LowerMatchesRaise). -/
set_option linter.unusedSimpArgs false
set_option maxRecDepth 100000
namespace Go.Lo
open Go.VL Go.Ar
def smin (acc : List Nat) : List Int → Nat → Nat
  | [], s => s
  | t :: r, s => smin acc r (min (s + acc.getD t.toNat 0) 129)
theorem smin_snoc (acc : List Nat) : ∀ (l : List Int) (t : Int) (s : Nat), smin acc (l ++ [t]) s = min (smin acc l s + acc.getD t.toNat 0) 129
  | [], t, s => rfl
  | x :: r, t, s => by simp only [List.cons_append, smin, smin_snoc acc r]
theorem smin_le (acc : List Nat) : ∀ (l : List Int) (s : Nat), s ≤ 129 → smin acc l s ≤ 129
  | [], s, h => h
  | t :: r, s, _ => smin_le acc r _ (Nat.min_le_right _ _)
def szR (L : List Nd) : List Nat := L.foldl (fun acc n => acc ++ [smin acc n.inn 1]) []
theorem szR_snoc (L : List Nd) (n : Nd) : szR (L ++ [n]) = szR L ++ [smin (szR L) n.inn 1] := by rw [szR, List.foldl_append]; rfl
end Go.Lo
namespace Go.Proofs.YtphkmlogjgeipaaGreatDoor
open Go.VL Go.Ar Go.Lo Go.Proofs.YtphkmlogjgeipaaGreatDoor
set_option linter.defProp false in
def tbO30 := (aI (aI (aI (aI (aI (aI Ty.sz3 (aI Ty.by3 Ty.ag3)) (aI (aI Ty.zr3 Ty.un3) (aI Ty.sz4 Ty.by4))) (aI (aI Ty.ag4 (aI Ty.zr4 Ty.un4)) (aI (aI Ty.sz9 Ty.by9) (aI Ty.ag9 Ty.zr9)))) (aI (aI (aI Ty.un9 (aI Ty.sz22 Ty.by22)) (aI (aI Ty.ag22 Ty.zr22) (aI Ty.un22 Ty.sz24))) (aI (aI Ty.by24 (aI Ty.ag24 Ty.zr24)) (aI (aI Ty.fl24_0 Ty.pl24_0) (aI Ty.sz28 Ty.by28))))) (aI (aI (aI (aI Ty.ag28 (aI Ty.zr28 Ty.fl28_0)) (aI (aI Ty.pl28_0 Ty.fl28_1) (aI Ty.pl28_1 Ty.fl28_2))) (aI (aI Ty.pl28_2 (aI Ty.sz29 Ty.by29)) (aI (aI Ty.ag29 Ty.zr29) (aI Ty.un29 Ty.sz31)))) (aI (aI (aI Ty.by31 (aI Ty.ag31 Ty.zr31)) (aI (aI Ty.fl31_0 Ty.pl31_0) (aI Ty.fl31_1 Ty.pl31_1))) (aI (aI (aI Ty.sz32 Ty.by32) (aI Ty.ag32 Ty.zr32)) (aI (aI Ty.un32 Ty.sz34) (aI Ty.by34 Ty.ag34)))))) (aI (aI (aI (aI (aI Ty.zr34 (aI Ty.fl34_0 Ty.pl34_0)) (aI (aI Ty.fl34_1 Ty.pl34_1) (aI Ty.fl34_2 Ty.pl34_2))) (aI (aI Ty.fl34_3 (aI Ty.pl34_3 Ty.fl34_4)) (aI (aI Ty.pl34_4 Ty.fl34_5) (aI Ty.pl34_5 Ty.fl34_6)))) (aI (aI (aI Ty.pl34_6 (aI Ty.fl34_7 Ty.pl34_7)) (aI (aI Ty.fl34_8 Ty.pl34_8) (aI Ty.sz45 Ty.by45))) (aI (aI Ty.ag45 (aI Ty.zr45 Ty.un45)) (aI (aI Ty.sz47 Ty.by47) (aI Ty.ag47 Ty.zr47))))) (aI (aI (aI (aI Ty.fl47_0 (aI Ty.pl47_0 Ty.fl47_1)) (aI (aI Ty.pl47_1 Ty.fl47_2) (aI Ty.pl47_2 Ty.fl47_3))) (aI (aI Ty.pl47_3 (aI Ty.fl47_4 Ty.pl47_4)) (aI (aI Ty.fl47_5 Ty.pl47_5) (aI Ty.fl47_6 Ty.pl47_6)))) (aI (aI (aI Ty.fl47_7 (aI Ty.pl47_7 Ty.fl47_8)) (aI (aI Ty.pl47_8 Ty.sz103) (aI Ty.by103 Ty.ag103))) (aI (aI (aI Ty.zr103 Ty.fl103_0) (aI Ty.pl103_0 Ty.fl103_1)) (aI (aI Ty.pl103_1 Ty.eq28) (aI Ty.eq31 Ty.eq103)))))))
theorem sizesR_ok (g : List Nd) (hw : WF g) (hsz : g.length ≤ 1048576) (hin : ∀ n ∈ g, n.inn.length ≤ 1048576) : OkP Tryz.prog 22 [vG g] (vints (ints (szR g))) := by
  have hlen : ∀ L : List Nd, (szR L).length = L.length := fun L => by
    have key : ∀ k, k ≤ L.length → (szR (L.take k)).length = k := by
      intro k
      induction k with
      | zero => intro _; rfl
      | succ k ih =>
        intro hk
        rw [List.take_succ_eq_append_getElem (by omega), szR_snoc, List.length_append, ih (by omega)]
        rfl
    have := key L.length (Nat.le_refl _)
    rwa [List.take_of_length_le (Nat.le_refl _)] at this
  have hle : ∀ L : List Nd, ∀ s ∈ szR L, s ≤ 129 := fun L => by
    have key : ∀ k, k ≤ L.length → ∀ s ∈ szR (L.take k), s ≤ 129 := by
      intro k
      induction k with
      | zero => intro _ s hs; cases hs
      | succ k ih =>
        intro hk s hs
        rw [List.take_succ_eq_append_getElem (by omega), szR_snoc] at hs
        rcases List.mem_append.1 hs with hs | hs
        · exact ih (by omega) s hs
        · obtain rfl := List.mem_singleton.1 hs
          exact smin_le _ _ _ (by decide)
    have := key L.length (Nat.le_refl _)
    rwa [List.take_of_length_le (Nat.le_refl _)] at this
  refine Ok.of_ex Ty.mixed Tryz.func22 rfl (by simp [Tryz.ntmps22]) (by kernel_rfl) fun F w0 I0 => ?_
  simp only [↓rA, rB]
  refine fun b1 h1 => ?_; replace h1 := newb h1; try simp only [Nb] at h1
  simp only [↓rA, rB, Tryz.results22]
  refine AWP.nilRow 3 1 3 (by simp only [rB, Nat.reduceEqDiff]) (by decide) ?_
  refine EX_forS Ty.mixed (by kernel_rfl) g.length (fun i S => (∃ y, S.σ 3 = .list (some y) 1 ((ints (szR (g.take i))).map fun x => [vint x]) ∧ S.rows = [⟨y, 1, 3⟩]) ∧ S.boxes = [(b1, .c [vNds g])] ∧ S.σ 1 = ptr b1 ∧ S.σ 4 = vint i) ⟨_, _, List.Sublist.refl _, List.Sublist.refl _, ?_⟩ (fun i S hi ⟨⟨y, g3, gr⟩, gb, g1, g4⟩ => ?_) (fun S ⟨⟨y, g3, gr⟩, gb, g1, g4⟩ => ?_)
  · simp only [rB, Nat.reduceEqDiff]
    exact ⟨_, rfl, rfl⟩
  · have hwi := wrap_succ (i := i) (N := g.length) hi (by omega)
    have hinl := hin _ (List.getElem_mem hi)
    simp only [↓rA, rB, Nat.reduceAdd, Nat.reduceEqDiff, tbO30, gb, g1, g4, Int.ofNat_lt, hi, List.length_map]
    have hli : (szR (g.take i)).length = i := by rw [hlen, List.length_take]; omega
    have hlz := hle (g.take i)
    have hsn : szR (g.take (i + 1)) = szR (g.take i) ++ [smin (szR (g.take i)) g[i].inn 1] := by rw [List.take_succ_eq_append_getElem hi, szR_snoc]
    generalize szR (g.take i) = Z at g3 hli hlz hsn
    refine EX_forS Ty.mixed (by kernel_rfl) g[i].inn.length (fun k S => S.σ 3 = .list (some y) 1 ((ints Z).map fun x => [vint x]) ∧ S.rows = [⟨y, 1, 3⟩] ∧ S.boxes = [(b1, .c [vNds g])] ∧ S.σ 1 = ptr b1 ∧ S.σ 4 = vint i ∧ S.σ 5 = vint (smin Z (g[i].inn.take k) 1) ∧ S.σ 6 = vint k) ⟨_, _, List.Sublist.refl _, List.Sublist.refl _, ?_⟩ (fun k S hk ⟨g3, gr, gb, g1, g4, g5, g6⟩ => ?_) (fun S ⟨g3, gr, gb, g1, g4, g5, g6⟩ => ?_)
    · simp only [rB, Nat.reduceEqDiff, gb, gr, g1, g3, g4]
      first | exact rfl | exact ⟨rfl, rfl⟩
    · have hwk := wrap_succ (i := k) (N := g[i].inn.length) hk (by omega)
      obtain ⟨t0, t1⟩ := hw i hi _ (List.getElem_mem hk)
      obtain ⟨u, hu⟩ : ∃ u : Nat, g[i].inn[k] = (u : Int) := ⟨g[i].inn[k].toNat, by omega⟩
      have huZ : u < Z.length := by omega
      have hul : u < (ints Z).length := by rw [List.length_map]; exact huZ
      have hZu := hlz _ (List.getElem_mem huZ)
      have hsm := smin_le Z (g[i].inn.take k) 1 (by decide)
      have hgu : (ints Z)[u] = ((Z[u] : Nat) : Int) := List.getElem_map _
      have hww : IntKind.i64.wrap ((smin Z (g[i].inn.take k) 1 : Int) + (Z[u] : Int)) = (smin Z (g[i].inn.take k) 1 : Int) + (Z[u] : Int) := wrap_id (by omega) (by omega)
      have hnx : smin Z (g[i].inn.take (k + 1)) 1 = min (smin Z (g[i].inn.take k) 1 + Z[u]) 129 := by
        rw [List.take_succ_eq_append_getElem hk, smin_snoc, hu, Int.toNat_natCast, List.getD_eq_getElem?_getD, List.getElem?_eq_getElem huZ]
        rfl
      simp only [↓rA, rB, Nat.reduceAdd, Nat.reduceEqDiff, tbO30, gb, g1, g3, g4, g5, g6, Int.ofNat_lt, hi, hk, huZ, List.length_map, getD_map _ _ _ hi, getD_map _ _ _ hk, getD_map _ _ _ hul, cNd_eq, hu, hgu, hww, hwk]
      refine ⟨_, _, List.Sublist.refl _, List.Sublist.refl _, ?_⟩
      simp only [rB, Nat.reduceEqDiff, gb, gr, g1, g3, g4]
      rw [hnx]
      first | (refine ⟨?_, rfl⟩) | skip
      all_goals (refine congrArg (fun n => V.lit (.int .i64 n)) ?_; (try split) <;> omega)
    · rw [List.take_of_length_le (Nat.le_refl _)] at g5
      have hkl : (Z.length + 1) * 8 ≤ 140737488355328 := by omega
      simp only [↓rA, rB, Nat.reduceAdd, Nat.reduceEqDiff, Nat.reduceLT, Nat.reduceLeDiff, Nat.reduceMul, tbO30, gb, gr, g1, g3, g4, g5, g6, Int.ofNat_lt, hi, Nat.lt_irrefl, List.length_map, getD_map _ _ _ hi, cNd_eq]
      refine fun y1 => takeRF_2 ?_
      simp only [↓rA, rB, Nat.reduceEqDiff, g4, List.length_map, hkl, hwi]
      refine fun y2 => ⟨_, [⟨y2, 1, 3⟩], List.Sublist.refl _, List.Sublist.cons_cons _ (List.nil_sublist _), ?_⟩
      simp only [rB, Nat.reduceEqDiff, gb, g1]
      refine ⟨y2, ?_, rfl⟩
      rw [hsn]
      simp only [ints, List.map_append, List.map_cons, List.map_nil]
  · rw [List.take_of_length_le (Nat.le_refl _)] at g3
    simp only [↓rA, rB, Nat.reduceAdd, Nat.reduceEqDiff, tbO30, gb, gr, g1, g3, g4, Int.ofNat_lt, Nat.lt_irrefl, List.length_map]
    exact ⟨_, [], [], Le.list _ _ _, List.nil_sublist _, List.nil_sublist _, rfl, rfl, rfl⟩
end Go.Proofs.YtphkmlogjgeipaaGreatDoor

