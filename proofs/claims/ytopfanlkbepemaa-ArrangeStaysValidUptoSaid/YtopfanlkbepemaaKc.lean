/- Merged out of my texts AJa AGk AGl AGm AIc AKh AIa AIz AJz AIb AJb. -/
import Derived.Test.YtopfanlkbepemaaKb
import Derived.Lib.Overlaps
import Derived.Test.YtopfanlkbepemaaVH
import Derived.Test.YtopfanlkbepemaaKa
set_option linter.unusedVariables false
/- Arrangements: contracts, the reference's Check; few, right, row. -/
set_option linter.unusedSimpArgs false
set_option maxRecDepth 100000
namespace Go.Proofs.Ytopfanlkbepemaa
open Go.VL Go.Ar Go.Proofs.Ytopfanlkbepemaa

def prevK (l : List Grp) : Nat → Option Str
  | 0 => none
  | i + 1 => l[i]?.map (·.key)
theorem prevK_succ (l : List Grp) (i : Nat) (h : i < l.length) : prevK l (i + 1) = some l[i].key := by simp [prevK, h]
theorem okGs_step (s : Int) (l : List Grp) (i : Nat) (h : i < l.length) : okGsB s (prevK l i) (l.drop i) = (okG s (prevK l i) l[i] && okGsB s (prevK l (i + 1)) (l.drop (i + 1))) := by
  rw [List.drop_eq_getElem_cons h, okGsB, prevK_succ l i h]
theorem check_no {s : Int} {l : List Grp} (h : okGsB s none l = false) : checkM ⟨s, l⟩ = 1 := by
  unfold checkM
  rw [if_neg]
  intro hv
  have := hv.2.2
  simp only [h, Bool.false_eq_true] at this
theorem check_since {s : Int} {l : List Grp} (h : s < 0 ∨ maxT < s) : checkM ⟨s, l⟩ = 1 := by
  unfold checkM
  rw [if_neg]
  intro hv
  have h1 := hv.1
  have h2 := hv.2.1
  simp only at h1 h2
  omega
theorem check_yes {s : Int} {l : List Grp} (h0 : ¬ s < 0) (h1 : ¬ maxT < s) (h : okGsB s none l = true) : checkM ⟨s, l⟩ = 0 := by
  unfold checkM
  rw [if_pos ⟨by simp only; omega, by simp only; omega, h⟩]
theorem okG_nil {s : Int} {p : Option Str} {g : Grp} (h : g.ds = []) : okG s p g = false := by unfold okG; simp [h]
theorem okG_prev {s : Int} {k : Str} {g : Grp} (h : less k g.key = false) : okG s (some k) g = false := by unfold okG; simp [h]
theorem okG_all {s : Int} {p : Option Str} {g : Grp} {x : Dlt} (hx : x ∈ g.ds) (h : ¬ x.row.key = g.key ∨ x.tick < s) : okG s p g = false := by
  have : (g.ds.all fun x => decide (x.row.key = g.key) && decide (s ≤ x.tick)) = false := by
    rw [List.all_eq_false]
    refine ⟨x, hx, ?_⟩
    simp only [Bool.and_eq_true, decide_eq_true_eq]
    rintro ⟨h1, h2⟩
    rcases h with h | h
    · exact h h1
    · omega
  unfold okG
  rw [this]
  simp
theorem okG_cons {s : Int} {p : Option Str} {g : Grp} (h : ¬ g.ds = consM g.ds) : okG s p g = false := by unfold okG; rw [decide_eq_false h]; simp
theorem okG_yes {s : Int} {p : Option Str} {g : Grp} (h1 : g.ds ≠ []) (h2 : ∀ k, p = some k → less k g.key = true) (h3 : ∀ x ∈ g.ds, x.row.key = g.key ∧ s ≤ x.tick) (h4 : g.ds = consM g.ds) : okG s p g = true := by
  unfold okG
  simp only [Bool.and_eq_true, decide_eq_true_eq, List.all_eq_true]
  refine ⟨⟨⟨h1, ?_⟩, h3⟩, h4⟩
  cases p with
  | none => rfl
  | some k => exact h2 k rfl
theorem wrap_pred (j : Nat) (h : j < 4194304) : IntKind.i64.wrap (((j + 1 : Nat) : Int) - 1) = (j : Int) := by
  rw [wrap_id (by omega) (by omega)]; omega

set_option linter.defProp false in
def tbAJa0 := (And.intro (And.intro (And.intro (And.intro (And.intro (And.intro Ty.sz3 (And.intro Ty.by3 Ty.ag3)) (And.intro Ty.zr3 (And.intro Ty.un3 Ty.sz4))) (And.intro (And.intro Ty.by4 (And.intro Ty.ag4 Ty.zr4)) (And.intro Ty.un4 (And.intro Ty.sz9 Ty.by9)))) (And.intro (And.intro (And.intro Ty.ag9 (And.intro Ty.zr9 Ty.un9)) (And.intro Ty.sz22 (And.intro Ty.by22 Ty.ag22))) (And.intro (And.intro Ty.zr22 (And.intro Ty.un22 Ty.sz24)) (And.intro (And.intro Ty.by24 Ty.ag24) (And.intro Ty.zr24 Ty.fl24_0))))) (And.intro (And.intro (And.intro (And.intro Ty.pl24_0 (And.intro Ty.fl24_1 Ty.pl24_1)) (And.intro Ty.sz29 (And.intro Ty.by29 Ty.ag29))) (And.intro (And.intro Ty.zr29 (And.intro Ty.un29 Ty.sz41)) (And.intro Ty.by41 (And.intro Ty.ag41 Ty.zr41)))) (And.intro (And.intro (And.intro Ty.un41 (And.intro Ty.sz53 Ty.by53)) (And.intro Ty.ag53 (And.intro Ty.zr53 Ty.fl53_0))) (And.intro (And.intro Ty.pl53_0 (And.intro Ty.fl53_1 Ty.pl53_1)) (And.intro (And.intro Ty.sz54 Ty.by54) (And.intro Ty.ag54 Ty.zr54)))))) (And.intro (And.intro (And.intro (And.intro (And.intro Ty.un54 (And.intro Ty.sz56 Ty.by56)) (And.intro Ty.ag56 (And.intro Ty.zr56 Ty.fl56_0))) (And.intro (And.intro Ty.pl56_0 (And.intro Ty.fl56_1 Ty.pl56_1)) (And.intro Ty.fl56_2 (And.intro Ty.pl56_2 Ty.fl56_3)))) (And.intro (And.intro (And.intro Ty.pl56_3 (And.intro Ty.fl56_4 Ty.pl56_4)) (And.intro Ty.fl56_5 (And.intro Ty.pl56_5 Ty.fl56_6))) (And.intro (And.intro Ty.pl56_6 (And.intro Ty.sz61 Ty.by61)) (And.intro (And.intro Ty.ag61 Ty.zr61) (And.intro Ty.fl61_0 Ty.pl61_0))))) (And.intro (And.intro (And.intro (And.intro Ty.fl61_1 (And.intro Ty.pl61_1 Ty.fl61_2)) (And.intro Ty.pl61_2 (And.intro Ty.sz65 Ty.by65))) (And.intro (And.intro Ty.ag65 (And.intro Ty.zr65 Ty.fl65_0)) (And.intro (And.intro Ty.pl65_0 Ty.fl65_1) (And.intro Ty.pl65_1 Ty.sz109)))) (And.intro (And.intro (And.intro Ty.by109 (And.intro Ty.ag109 Ty.zr109)) (And.intro Ty.fl109_0 (And.intro Ty.pl109_0 Ty.fl109_1))) (And.intro (And.intro Ty.pl109_1 (And.intro Ty.fl109_2 Ty.pl109_2)) (And.intro (And.intro Ty.eq53 Ty.eq109) (And.intro Ty.cb42 Ty.cb55)))))))
theorem check22_ok (a : Arr) (ha : fitA a) : OkP Try.prog 28 [vArr a] (vint (checkM a)) := by
  obtain ⟨s, l⟩ := a
  obtain ⟨hl, hds⟩ := ha.fitG
  simp only at hl hds
  unfold big at hl
  refine Ok.of_ex Ty.mixed Try.func28 rfl (by simp [Try.ntmps28]) (by kernel_rfl) fun F w0 I0 => ?_
  simp only [↓rA, rB, Int.reduceLE, Int.reduceLT, Int.reduceToNat, Nat.reduceAdd, Nat.reduceEqDiff, Nat.reduceLT, Nat.reduceLeDiff, Nat.reduceMul, Nat.reduceSub, reduceCtorEq, tbAJa0, Try.results28]
  refine fun b1 h1 => ?_; replace h1 := newb h1; try simp only [Nb] at h1
  by_cases c1 : s < 0
  · simp only [↓rA, rB, Int.reduceLE, Int.reduceLT, Int.reduceToNat, Nat.reduceAdd, Nat.reduceEqDiff, Nat.reduceLT, Nat.reduceLeDiff, Nat.reduceMul, Nat.reduceSub, reduceCtorEq, tbAJa0, Try.results28, h1, c1]
    exact ret_done (by rw [check_since (.inl c1)])
  by_cases c2 : maxT < s
  · simp only [↓rA, rB, Int.reduceLE, Int.reduceLT, Int.reduceToNat, Nat.reduceAdd, Nat.reduceEqDiff, Nat.reduceLT, Nat.reduceLeDiff, Nat.reduceMul, Nat.reduceSub, reduceCtorEq, tbAJa0, Try.results28, h1, c1, c2]
    exact ret_done (by rw [check_since (.inr c2)])
  simp only [↓rA, rB, Int.reduceLE, Int.reduceLT, Int.reduceToNat, Nat.reduceAdd, Nat.reduceEqDiff, Nat.reduceLT, Nat.reduceLeDiff, Nat.reduceMul, Nat.reduceSub, reduceCtorEq, tbAJa0, Try.results28, h1, c1, c2]
  refine EX_for Ty.mixed (by kernel_rfl) l.length (fun i S => okGsB s none l = okGsB s (prevK l i) (l.drop i) ∧ S.σ 1 = ptr b1 ∧ S.σ 2 = vint 0 ∧ S.σ 3 = vint i ∧ S.boxes = [(b1, .c (cArr ⟨s, l⟩))] ∧ S.rows = []) ⟨0, rfl, ?_⟩ (fun i S hi ⟨hgo, g1, g2, g3, gb, gr⟩ => ?_) (fun S ⟨hgo, g1, g2, g3, gb, gr⟩ => ?_)
  · simp only [↓rA, rB, Int.reduceLE, Int.reduceLT, Int.reduceToNat, Nat.reduceAdd, Nat.reduceEqDiff, Nat.reduceLT, Nat.reduceLeDiff, Nat.reduceMul, Nat.reduceSub, reduceCtorEq, tbAJa0, Try.results28, h1]
  · rw [okGs_step s l i hi] at hgo
    have hdf := hds _ (List.getElem_mem hi)
    generalize hg : l[i] = g at hgo hdf
    have hlen := hdf.1
    unfold big at hlen
    have bad : okG s (prevK l i) g = false → checkM ⟨s, l⟩ = 1 := fun h => check_no (by rw [hgo, h, Bool.false_and])
    simp only [↓rA, rB, Int.reduceLE, Int.reduceLT, Int.reduceToNat, Nat.reduceAdd, Nat.reduceEqDiff, Nat.reduceLT, Nat.reduceLeDiff, Nat.reduceMul, Nat.reduceSub, reduceCtorEq, tbAJa0, Try.results28, g1, g2, g3, gb, gr, h1, Int.ofNat_lt, hi, List.length_map, getD_map, hg]
    refine fun b4 h4 => ?_; replace h4 := newb h4; try simp only [Nb] at h4
    by_cases e0 : g.ds = []
    · have e0' : ((g.ds.length : Int) = 0) := by rw [e0]; rfl
      simp only [↓rA, rB, Int.reduceLE, Int.reduceLT, Int.reduceToNat, Nat.reduceAdd, Nat.reduceEqDiff, Nat.reduceLT, Nat.reduceLeDiff, Nat.reduceMul, Nat.reduceSub, reduceCtorEq, tbAJa0, Try.results28, g1, g2, g3, gb, gr, h1, h4, e0', List.length_map]
      exact ret_done (by rw [bad (okG_nil e0)])
    have e0' : ¬ ((g.ds.length : Int) = 0) := fun h => e0 (List.eq_nil_of_length_eq_zero (by omega))
    cases i with
    | zero =>
      have hpk : ∀ k, prevK l 0 = some k → less k g.key = true := fun k h => by cases h
      simp only [↓rA, rB, Int.reduceLE, Int.reduceLT, Int.reduceToNat, Nat.reduceAdd, Nat.reduceEqDiff, Nat.reduceLT, Nat.reduceLeDiff, Nat.reduceMul, Nat.reduceSub, reduceCtorEq, tbAJa0, Try.results28, g1, g2, g3, gb, gr, h1, h4, e0', List.length_map, Int.lt_irrefl]
      have hyes : (∀ x ∈ g.ds, x.row.key = g.key ∧ s ≤ x.tick) → g.ds = consM g.ds → okGsB s none l = okGsB s (prevK l (0 + 1)) (l.drop (0 + 1)) := fun h3 h4 => by
        rw [hgo, okG_yes e0 hpk h3 h4, Bool.true_and]
      refine EX_forS Ty.mixed (by kernel_rfl) g.ds.length (fun k S => (∀ k', (h : k' < g.ds.length) → k' < k → g.ds[k'].row.key = g.key ∧ s ≤ g.ds[k'].tick) ∧ S.σ 1 = ptr b1 ∧ S.σ 2 = vint 0 ∧ S.σ 3 = vint ((0 : Nat) : Int) ∧ S.σ 4 = ptr b4 ∧ S.σ 5 = vint k ∧ S.boxes = [(b4, .c (cGrp g)), (b1, .c (cArr ⟨s, l⟩))] ∧ S.rows = []) ⟨_, _, List.Sublist.refl _, List.Sublist.refl _, fun k' h hk' => absurd hk' (Nat.not_lt_zero _), ?_⟩ (fun k S hk ⟨ho, g1, g2, g3, g4, g5, gb, gr⟩ => ?_) (fun S ⟨ho, g1, g2, g3, g4, g5, gb, gr⟩ => ?_)
      · simp only [↓rA, rB, Int.reduceLE, Int.reduceLT, Int.reduceToNat, Nat.reduceAdd, Nat.reduceEqDiff, Nat.reduceLT, Nat.reduceLeDiff, Nat.reduceMul, Nat.reduceSub, reduceCtorEq, tbAJa0, Try.results28, g1, g2, g3, gb, gr, h1, h4]
        try exact ⟨trivial, trivial⟩
      · by_cases k1 : g.ds[k].row.key = g.key
        · by_cases k2 : g.ds[k].tick < s
          · simp only [↓rA, rB, Int.reduceLE, Int.reduceLT, Int.reduceToNat, Nat.reduceAdd, Nat.reduceEqDiff, Nat.reduceLT, Nat.reduceLeDiff, Nat.reduceMul, Nat.reduceSub, reduceCtorEq, tbAJa0, Try.results28, g1, g2, g3, g4, g5, gb, gr, h1, h4, Int.ofNat_lt, hk, List.length_map, getD_map, k1, k2]
            exact ret_done (by rw [bad (okG_all (List.getElem_mem hk) (.inr k2))])
          · simp only [↓rA, rB, Int.reduceLE, Int.reduceLT, Int.reduceToNat, Nat.reduceAdd, Nat.reduceEqDiff, Nat.reduceLT, Nat.reduceLeDiff, Nat.reduceMul, Nat.reduceSub, reduceCtorEq, tbAJa0, Try.results28, g1, g2, g3, g4, g5, gb, gr, h1, h4, Int.ofNat_lt, hk, List.length_map, getD_map, k1, k2, wrap_succ hk (Nat.le_trans hlen (by decide))]
            refine ⟨_, _, List.Sublist.refl _, List.Sublist.refl _, fun k' h hk' => ?_, ?_⟩
            · by_cases e : k' = k
              · subst e; exact ⟨k1, by omega⟩
              · exact ho k' h (by omega)
            · simp only [↓rA, rB, Int.reduceLE, Int.reduceLT, Int.reduceToNat, Nat.reduceAdd, Nat.reduceEqDiff, Nat.reduceLT, Nat.reduceLeDiff, Nat.reduceMul, Nat.reduceSub, reduceCtorEq, tbAJa0, Try.results28, g1, g2, g3, g4, g5, gb, gr, h1, h4, wrap_succ hk (Nat.le_trans hlen (by decide))]
              try exact ⟨trivial, trivial⟩
        · simp only [↓rA, rB, Int.reduceLE, Int.reduceLT, Int.reduceToNat, Nat.reduceAdd, Nat.reduceEqDiff, Nat.reduceLT, Nat.reduceLeDiff, Nat.reduceMul, Nat.reduceSub, reduceCtorEq, tbAJa0, Try.results28, g1, g2, g3, g4, g5, gb, gr, h1, h4, Int.ofNat_lt, hk, List.length_map, getD_map, k1]
          exact ret_done (by rw [bad (okG_all (List.getElem_mem hk) (.inl k1))])
      · have hall : ∀ x ∈ g.ds, x.row.key = g.key ∧ s ≤ x.tick := fun x hx => by
          obtain ⟨k', h, rfl⟩ := List.getElem_of_mem hx
          exact ho k' h h
        simp only [↓rA, rB, Int.reduceLE, Int.reduceLT, Int.reduceToNat, Nat.reduceAdd, Nat.reduceEqDiff, Nat.reduceLT, Nat.reduceLeDiff, Nat.reduceMul, Nat.reduceSub, reduceCtorEq, tbAJa0, Try.results28, g1, g2, g3, g4, g5, gb, gr, h1, h4, Int.ofNat_lt, Nat.lt_irrefl, List.length_map]
        refine CallV_of _ (cons20_ok g.ds hdf.1 hdf.okF).v ?_
        simp only [↓rA, rB, Int.reduceLE, Int.reduceLT, Int.reduceToNat, Nat.reduceAdd, Nat.reduceEqDiff, Nat.reduceLT, Nat.reduceLeDiff, Nat.reduceMul, Nat.reduceSub, reduceCtorEq, tbAJa0, Try.results28, g1, g2, g3, g4, g5, gb, gr, h1, h4, List.length_map]
        refine CallV_of _ (sameDeltas_ok g.ds (consM g.ds) (Nat.le_trans hlen (by decide)) hdf.okF).v ?_
        by_cases e4 : g.ds = consM g.ds
        · have e4' := decide_eq_true e4
          rw [e4']
          simp only [↓rA, rB, Int.reduceLE, Int.reduceLT, Int.reduceToNat, Nat.reduceAdd, Nat.reduceEqDiff, Nat.reduceLT, Nat.reduceLeDiff, Nat.reduceMul, Nat.reduceSub, reduceCtorEq, tbAJa0, Try.results28, g1, g2, g3, g4, g5, gb, gr, h1, h4, wrap_succ hi (Nat.le_trans hl (by decide))]
          first | exact ⟨1, hyes hall e4, rfl, rfl⟩ | exact ⟨1, hyes hall e4, rfl⟩
        · have e4' := decide_eq_false e4
          rw [e4']
          simp only [↓rA, rB, Int.reduceLE, Int.reduceLT, Int.reduceToNat, Nat.reduceAdd, Nat.reduceEqDiff, Nat.reduceLT, Nat.reduceLeDiff, Nat.reduceMul, Nat.reduceSub, reduceCtorEq, tbAJa0, Try.results28, g1, g2, g3, g4, g5, gb, gr, h1, h4]
          exact ret_done (by rw [bad (okG_cons e4)])
    | succ j =>
      have hj : j < l.length := by omega
      have w1 := wrap_pred j (by omega)
      have hprev : prevK l (j + 1) = some l[j].key := prevK_succ l j hj
      by_cases hp : less l[j].key g.key = true
      · have hpk : ∀ k, prevK l (j + 1) = some k → less k g.key = true := fun k h => by rw [hprev] at h; cases h; exact hp
        have p1 : Op.bytesLess g.key.data.toList l[j].key.data.toList = false := less_asymm hp
        have p2 : ¬ g.key = l[j].key := fun e => less_ne hp e.symm
        simp only [↓rA, rB, Int.reduceLE, Int.reduceLT, Int.reduceToNat, Nat.reduceAdd, Nat.reduceEqDiff, Nat.reduceLT, Nat.reduceLeDiff, Nat.reduceMul, Nat.reduceSub, reduceCtorEq, tbAJa0, Try.results28, g1, g2, g3, gb, gr, h1, h4, e0', List.length_map, w1, Int.ofNat_lt, hj, getD_map, p1, p2]
        have hyes : (∀ x ∈ g.ds, x.row.key = g.key ∧ s ≤ x.tick) → g.ds = consM g.ds → okGsB s none l = okGsB s (prevK l ((j + 1) + 1)) (l.drop ((j + 1) + 1)) := fun h3 h4 => by
          rw [hgo, okG_yes e0 hpk h3 h4, Bool.true_and]
        refine EX_forS Ty.mixed (by kernel_rfl) g.ds.length (fun k S => (∀ k', (h : k' < g.ds.length) → k' < k → g.ds[k'].row.key = g.key ∧ s ≤ g.ds[k'].tick) ∧ S.σ 1 = ptr b1 ∧ S.σ 2 = vint 0 ∧ S.σ 3 = vint ((j + 1 : Nat) : Int) ∧ S.σ 4 = ptr b4 ∧ S.σ 5 = vint k ∧ S.boxes = [(b4, .c (cGrp g)), (b1, .c (cArr ⟨s, l⟩))] ∧ S.rows = []) ⟨_, _, List.Sublist.refl _, List.Sublist.refl _, fun k' h hk' => absurd hk' (Nat.not_lt_zero _), ?_⟩ (fun k S hk ⟨ho, g1, g2, g3, g4, g5, gb, gr⟩ => ?_) (fun S ⟨ho, g1, g2, g3, g4, g5, gb, gr⟩ => ?_)
        · simp only [↓rA, rB, Int.reduceLE, Int.reduceLT, Int.reduceToNat, Nat.reduceAdd, Nat.reduceEqDiff, Nat.reduceLT, Nat.reduceLeDiff, Nat.reduceMul, Nat.reduceSub, reduceCtorEq, tbAJa0, Try.results28, g1, g2, g3, gb, gr, h1, h4]
          try exact ⟨trivial, trivial⟩
        · by_cases k1 : g.ds[k].row.key = g.key
          · by_cases k2 : g.ds[k].tick < s
            · simp only [↓rA, rB, Int.reduceLE, Int.reduceLT, Int.reduceToNat, Nat.reduceAdd, Nat.reduceEqDiff, Nat.reduceLT, Nat.reduceLeDiff, Nat.reduceMul, Nat.reduceSub, reduceCtorEq, tbAJa0, Try.results28, g1, g2, g3, g4, g5, gb, gr, h1, h4, Int.ofNat_lt, hk, List.length_map, getD_map, k1, k2]
              exact ret_done (by rw [bad (okG_all (List.getElem_mem hk) (.inr k2))])
            · simp only [↓rA, rB, Int.reduceLE, Int.reduceLT, Int.reduceToNat, Nat.reduceAdd, Nat.reduceEqDiff, Nat.reduceLT, Nat.reduceLeDiff, Nat.reduceMul, Nat.reduceSub, reduceCtorEq, tbAJa0, Try.results28, g1, g2, g3, g4, g5, gb, gr, h1, h4, Int.ofNat_lt, hk, List.length_map, getD_map, k1, k2, wrap_succ hk (Nat.le_trans hlen (by decide))]
              refine ⟨_, _, List.Sublist.refl _, List.Sublist.refl _, fun k' h hk' => ?_, ?_⟩
              · by_cases e : k' = k
                · subst e; exact ⟨k1, by omega⟩
                · exact ho k' h (by omega)
              · simp only [↓rA, rB, Int.reduceLE, Int.reduceLT, Int.reduceToNat, Nat.reduceAdd, Nat.reduceEqDiff, Nat.reduceLT, Nat.reduceLeDiff, Nat.reduceMul, Nat.reduceSub, reduceCtorEq, tbAJa0, Try.results28, g1, g2, g3, g4, g5, gb, gr, h1, h4, wrap_succ hk (Nat.le_trans hlen (by decide))]
                try exact ⟨trivial, trivial⟩
          · simp only [↓rA, rB, Int.reduceLE, Int.reduceLT, Int.reduceToNat, Nat.reduceAdd, Nat.reduceEqDiff, Nat.reduceLT, Nat.reduceLeDiff, Nat.reduceMul, Nat.reduceSub, reduceCtorEq, tbAJa0, Try.results28, g1, g2, g3, g4, g5, gb, gr, h1, h4, Int.ofNat_lt, hk, List.length_map, getD_map, k1]
            exact ret_done (by rw [bad (okG_all (List.getElem_mem hk) (.inl k1))])
        · have hall : ∀ x ∈ g.ds, x.row.key = g.key ∧ s ≤ x.tick := fun x hx => by
            obtain ⟨k', h, rfl⟩ := List.getElem_of_mem hx
            exact ho k' h h
          simp only [↓rA, rB, Int.reduceLE, Int.reduceLT, Int.reduceToNat, Nat.reduceAdd, Nat.reduceEqDiff, Nat.reduceLT, Nat.reduceLeDiff, Nat.reduceMul, Nat.reduceSub, reduceCtorEq, tbAJa0, Try.results28, g1, g2, g3, g4, g5, gb, gr, h1, h4, Int.ofNat_lt, Nat.lt_irrefl, List.length_map]
          refine CallV_of _ (cons20_ok g.ds hdf.1 hdf.okF).v ?_
          simp only [↓rA, rB, Int.reduceLE, Int.reduceLT, Int.reduceToNat, Nat.reduceAdd, Nat.reduceEqDiff, Nat.reduceLT, Nat.reduceLeDiff, Nat.reduceMul, Nat.reduceSub, reduceCtorEq, tbAJa0, Try.results28, g1, g2, g3, g4, g5, gb, gr, h1, h4, List.length_map]
          refine CallV_of _ (sameDeltas_ok g.ds (consM g.ds) (Nat.le_trans hlen (by decide)) hdf.okF).v ?_
          by_cases e4 : g.ds = consM g.ds
          · have e4' := decide_eq_true e4
            rw [e4']
            simp only [↓rA, rB, Int.reduceLE, Int.reduceLT, Int.reduceToNat, Nat.reduceAdd, Nat.reduceEqDiff, Nat.reduceLT, Nat.reduceLeDiff, Nat.reduceMul, Nat.reduceSub, reduceCtorEq, tbAJa0, Try.results28, g1, g2, g3, g4, g5, gb, gr, h1, h4, wrap_succ hi (Nat.le_trans hl (by decide))]
            first | exact ⟨1, hyes hall e4, rfl, rfl⟩ | exact ⟨1, hyes hall e4, rfl⟩
          · have e4' := decide_eq_false e4
            rw [e4']
            simp only [↓rA, rB, Int.reduceLE, Int.reduceLT, Int.reduceToNat, Nat.reduceAdd, Nat.reduceEqDiff, Nat.reduceLT, Nat.reduceLeDiff, Nat.reduceMul, Nat.reduceSub, reduceCtorEq, tbAJa0, Try.results28, g1, g2, g3, g4, g5, gb, gr, h1, h4]
            exact ret_done (by rw [bad (okG_cons e4)])
      · have hp' : less l[j].key g.key = false := by simpa using hp
        have hb := bad (by rw [hprev]; exact okG_prev hp')
        by_cases p2 : g.key = l[j].key
        · have p1 : Op.bytesLess l[j].key.data.toList l[j].key.data.toList = false := bytesLess_irrefl _
          simp only [↓rA, rB, Int.reduceLE, Int.reduceLT, Int.reduceToNat, Nat.reduceAdd, Nat.reduceEqDiff, Nat.reduceLT, Nat.reduceLeDiff, Nat.reduceMul, Nat.reduceSub, reduceCtorEq, tbAJa0, Try.results28, g1, g2, g3, gb, gr, h1, h4, e0', List.length_map, w1, Int.ofNat_lt, hj, getD_map, p1, p2]
          exact ret_done (by rw [hb])
        · have p1 : Op.bytesLess g.key.data.toList l[j].key.data.toList = true := less_total hp' fun e => p2 e.symm
          simp only [↓rA, rB, Int.reduceLE, Int.reduceLT, Int.reduceToNat, Nat.reduceAdd, Nat.reduceEqDiff, Nat.reduceLT, Nat.reduceLeDiff, Nat.reduceMul, Nat.reduceSub, reduceCtorEq, tbAJa0, Try.results28, g1, g2, g3, gb, gr, h1, h4, e0', List.length_map, w1, Int.ofNat_lt, hj, getD_map, p1, p2]
          exact ret_done (by rw [hb])
  · simp only [↓rA, rB, Int.reduceLE, Int.reduceLT, Int.reduceToNat, Nat.reduceAdd, Nat.reduceEqDiff, Nat.reduceLT, Nat.reduceLeDiff, Nat.reduceMul, Nat.reduceSub, reduceCtorEq, tbAJa0, Try.results28, g1, g2, g3, gb, gr, h1, Int.ofNat_lt, Nat.lt_irrefl, List.length_map]
    have : okGsB s none l = true := by rw [hgo, List.drop_of_length_le (Nat.le_refl _)]; rfl
    exact ret_done (by rw [check_yes c1 c2 this])

/-! ### few, right -/
def fewM (a : Arr) (d : List Dlt) : Bool := decide (d.length + a.groups.length + (allD a.groups).length ≤ 200)
def rightM (a : Arr) (d : List Dlt) : Bool := fewM a d && decide (checkM a = 0)
set_option linter.defProp false in
def tbAJa1 := (And.intro (And.intro (And.intro (And.intro (And.intro (And.intro Ty.sz3 Ty.by3) (And.intro Ty.ag3 (And.intro Ty.zr3 Ty.un3))) (And.intro (And.intro Ty.sz4 (And.intro Ty.by4 Ty.ag4)) (And.intro Ty.zr4 (And.intro Ty.un4 Ty.sz9)))) (And.intro (And.intro (And.intro Ty.by9 (And.intro Ty.ag9 Ty.zr9)) (And.intro Ty.un9 (And.intro Ty.sz22 Ty.by22))) (And.intro (And.intro Ty.ag22 (And.intro Ty.zr22 Ty.un22)) (And.intro Ty.sz24 (And.intro Ty.by24 Ty.ag24))))) (And.intro (And.intro (And.intro (And.intro Ty.zr24 (And.intro Ty.fl24_0 Ty.pl24_0)) (And.intro Ty.fl24_1 (And.intro Ty.pl24_1 Ty.sz41))) (And.intro (And.intro Ty.by41 (And.intro Ty.ag41 Ty.zr41)) (And.intro Ty.un41 (And.intro Ty.sz53 Ty.by53)))) (And.intro (And.intro (And.intro Ty.ag53 (And.intro Ty.zr53 Ty.fl53_0)) (And.intro Ty.pl53_0 (And.intro Ty.fl53_1 Ty.pl53_1))) (And.intro (And.intro Ty.sz54 (And.intro Ty.by54 Ty.ag54)) (And.intro Ty.zr54 (And.intro Ty.un54 Ty.sz56)))))) (And.intro (And.intro (And.intro (And.intro (And.intro Ty.by56 Ty.ag56) (And.intro Ty.zr56 (And.intro Ty.fl56_0 Ty.pl56_0))) (And.intro (And.intro Ty.fl56_1 (And.intro Ty.pl56_1 Ty.fl56_2)) (And.intro Ty.pl56_2 (And.intro Ty.fl56_3 Ty.pl56_3)))) (And.intro (And.intro (And.intro Ty.fl56_4 (And.intro Ty.pl56_4 Ty.fl56_5)) (And.intro Ty.pl56_5 (And.intro Ty.fl56_6 Ty.pl56_6))) (And.intro (And.intro Ty.sz61 (And.intro Ty.by61 Ty.ag61)) (And.intro Ty.zr61 (And.intro Ty.fl61_0 Ty.pl61_0))))) (And.intro (And.intro (And.intro (And.intro Ty.fl61_1 (And.intro Ty.pl61_1 Ty.fl61_2)) (And.intro Ty.pl61_2 (And.intro Ty.sz65 Ty.by65))) (And.intro (And.intro Ty.ag65 (And.intro Ty.zr65 Ty.fl65_0)) (And.intro Ty.pl65_0 (And.intro Ty.fl65_1 Ty.pl65_1)))) (And.intro (And.intro (And.intro Ty.sz109 (And.intro Ty.by109 Ty.ag109)) (And.intro Ty.zr109 (And.intro Ty.fl109_0 Ty.pl109_0))) (And.intro (And.intro Ty.fl109_1 (And.intro Ty.pl109_1 Ty.fl109_2)) (And.intro Ty.pl109_2 (And.intro Ty.eq53 Ty.eq109)))))))
theorem few_ok (a : Arr) (d : List Dlt) (ha : fitA a) (hd : d.length ≤ big) : OkP Try.prog 26 [vArr a, vDlts d] (vbool (fewM a d)) := by
  obtain ⟨s, l⟩ := a
  have hl : l.length ≤ 4194304 := ha.1
  have hal : (allD l).length ≤ 4194304 := ha.2.1
  unfold big at hd
  refine Ok.of_ex Ty.mixed Try.func26 rfl (by simp [Try.ntmps26]) (by kernel_rfl) fun F w0 I0 => ?_
  simp only [↓rA, rB, Int.reduceLE, Int.reduceLT, Int.reduceToNat, Nat.reduceAdd, Nat.reduceEqDiff, Nat.reduceLT, Nat.reduceLeDiff, Nat.reduceMul, Nat.reduceSub, reduceCtorEq, tbAJa1, Try.results26]
  refine fun b2 h2 => ?_; replace h2 := newb h2; try simp only [Nb] at h2
  have w0 : IntKind.i64.wrap ((d.length : Int) + (l.length : Int)) = ((d.length + l.length + (allD (l.take 0)).length : Nat) : Int) := by
    rw [wrap_id (by omega) (by omega)]; simp [allD]
  simp only [↓rA, rB, Int.reduceLE, Int.reduceLT, Int.reduceToNat, Nat.reduceAdd, Nat.reduceEqDiff, Nat.reduceLT, Nat.reduceLeDiff, Nat.reduceMul, Nat.reduceSub, reduceCtorEq, tbAJa1, Try.results26, h2, List.length_map, w0]
  refine EX_for Ty.mixed (by kernel_rfl) l.length (fun i S => S.σ 5 = vint ((d.length + l.length + (allD (l.take i)).length : Nat) : Int) ∧ S.σ 2 = ptr b2 ∧ S.σ 6 = vint i ∧ S.boxes = [(b2, .c (cArr ⟨s, l⟩))] ∧ S.rows = []) ⟨0, ?_⟩ (fun i S hi ⟨g5, g2, g6, gb, gr⟩ => ?_) (fun S ⟨g5, g2, g6, gb, gr⟩ => ?_)
  · simp only [↓rA, rB, Int.reduceLE, Int.reduceLT, Int.reduceToNat, Nat.reduceAdd, Nat.reduceEqDiff, Nat.reduceLT, Nat.reduceLeDiff, Nat.reduceMul, Nat.reduceSub, reduceCtorEq, tbAJa1, Try.results26, h2]
  · have hai := allD_len l i hi
    have w1 : IntKind.i64.wrap (((d.length + l.length + (allD (l.take i)).length : Nat) : Int) + (l[i].ds.length : Int)) = ((d.length + l.length + (allD (l.take (i + 1))).length : Nat) : Int) := by
      rw [allD_take l i hi, List.length_append, wrap_id (by omega) (by omega)]; omega
    simp only [↓rA, rB, Int.reduceLE, Int.reduceLT, Int.reduceToNat, Nat.reduceAdd, Nat.reduceEqDiff, Nat.reduceLT, Nat.reduceLeDiff, Nat.reduceMul, Nat.reduceSub, reduceCtorEq, tbAJa1, Try.results26, g5, g2, g6, gb, gr, h2, Int.ofNat_lt, hi, List.length_map, getD_map, w1, wrap_succ hi (Nat.le_trans hl (by decide))]
    exact ⟨0, rfl⟩
  · rw [List.take_of_length_le (Nat.le_refl _)] at g5
    simp only [↓rA, rB, Int.reduceLE, Int.reduceLT, Int.reduceToNat, Nat.reduceAdd, Nat.reduceEqDiff, Nat.reduceLT, Nat.reduceLeDiff, Nat.reduceMul, Nat.reduceSub, reduceCtorEq, tbAJa1, Try.results26, g5, g2, g6, gb, gr, h2, Int.ofNat_lt, Nat.lt_irrefl, List.length_map]
    refine ret_done ?_
    unfold fewM
    congr 2
    exact decide_eq_decide.2 (by simp only; omega)
set_option linter.defProp false in
def tbAJa2 := (And.intro (And.intro (And.intro (And.intro (And.intro (And.intro Ty.sz3 (And.intro Ty.by3 Ty.ag3)) (And.intro Ty.zr3 (And.intro Ty.un3 Ty.sz4))) (And.intro (And.intro Ty.by4 (And.intro Ty.ag4 Ty.zr4)) (And.intro Ty.un4 (And.intro Ty.sz9 Ty.by9)))) (And.intro (And.intro (And.intro Ty.ag9 (And.intro Ty.zr9 Ty.un9)) (And.intro Ty.sz22 (And.intro Ty.by22 Ty.ag22))) (And.intro (And.intro Ty.zr22 (And.intro Ty.un22 Ty.sz24)) (And.intro (And.intro Ty.by24 Ty.ag24) (And.intro Ty.zr24 Ty.fl24_0))))) (And.intro (And.intro (And.intro (And.intro Ty.pl24_0 (And.intro Ty.fl24_1 Ty.pl24_1)) (And.intro Ty.sz29 (And.intro Ty.by29 Ty.ag29))) (And.intro (And.intro Ty.zr29 (And.intro Ty.un29 Ty.sz41)) (And.intro Ty.by41 (And.intro Ty.ag41 Ty.zr41)))) (And.intro (And.intro (And.intro Ty.un41 (And.intro Ty.sz53 Ty.by53)) (And.intro Ty.ag53 (And.intro Ty.zr53 Ty.fl53_0))) (And.intro (And.intro Ty.pl53_0 (And.intro Ty.fl53_1 Ty.pl53_1)) (And.intro (And.intro Ty.sz54 Ty.by54) (And.intro Ty.ag54 Ty.zr54)))))) (And.intro (And.intro (And.intro (And.intro (And.intro Ty.un54 (And.intro Ty.sz56 Ty.by56)) (And.intro Ty.ag56 (And.intro Ty.zr56 Ty.fl56_0))) (And.intro (And.intro Ty.pl56_0 (And.intro Ty.fl56_1 Ty.pl56_1)) (And.intro Ty.fl56_2 (And.intro Ty.pl56_2 Ty.fl56_3)))) (And.intro (And.intro (And.intro Ty.pl56_3 (And.intro Ty.fl56_4 Ty.pl56_4)) (And.intro Ty.fl56_5 (And.intro Ty.pl56_5 Ty.fl56_6))) (And.intro (And.intro Ty.pl56_6 (And.intro Ty.sz61 Ty.by61)) (And.intro (And.intro Ty.ag61 Ty.zr61) (And.intro Ty.fl61_0 Ty.pl61_0))))) (And.intro (And.intro (And.intro (And.intro Ty.fl61_1 (And.intro Ty.pl61_1 Ty.fl61_2)) (And.intro Ty.pl61_2 (And.intro Ty.sz65 Ty.by65))) (And.intro (And.intro Ty.ag65 (And.intro Ty.zr65 Ty.fl65_0)) (And.intro (And.intro Ty.pl65_0 Ty.fl65_1) (And.intro Ty.pl65_1 Ty.sz109)))) (And.intro (And.intro (And.intro Ty.by109 (And.intro Ty.ag109 Ty.zr109)) (And.intro Ty.fl109_0 (And.intro Ty.pl109_0 Ty.fl109_1))) (And.intro (And.intro Ty.pl109_1 (And.intro Ty.fl109_2 Ty.pl109_2)) (And.intro (And.intro Ty.eq53 Ty.eq109) (And.intro Ty.cb26 Ty.cb28)))))))
theorem right_ok (a : Arr) (d : List Dlt) (ha : fitA a) (hd : d.length ≤ big) : OkP Try.prog 11 [vArr a, vDlts d] (vbool (rightM a d)) := by
  refine Ok.of_ex Ty.mixed Try.func11 rfl (by simp [Try.ntmps11]) (by kernel_rfl) fun F w0 I0 => ?_
  simp only [↓rA, rB, Int.reduceLE, Int.reduceLT, Int.reduceToNat, Nat.reduceAdd, Nat.reduceEqDiff, Nat.reduceLT, Nat.reduceLeDiff, Nat.reduceMul, Nat.reduceSub, reduceCtorEq, tbAJa2, Try.results11]
  refine fun b2 h2 => ?_; replace h2 := newb h2; try simp only [Nb] at h2
  simp only [↓rA, rB, Int.reduceLE, Int.reduceLT, Int.reduceToNat, Nat.reduceAdd, Nat.reduceEqDiff, Nat.reduceLT, Nat.reduceLeDiff, Nat.reduceMul, Nat.reduceSub, reduceCtorEq, tbAJa2, Try.results11, h2]
  refine OkF_of _ (few_ok a d ha hd) ?_
  cases hf : fewM a d
  · simp only [↓rA, rB, Int.reduceLE, Int.reduceLT, Int.reduceToNat, Nat.reduceAdd, Nat.reduceEqDiff, Nat.reduceLT, Nat.reduceLeDiff, Nat.reduceMul, Nat.reduceSub, reduceCtorEq, tbAJa2, Try.results11, h2, hf]
    exact ret_done (by simp [rightM, hf])
  · simp only [↓rA, rB, Int.reduceLE, Int.reduceLT, Int.reduceToNat, Nat.reduceAdd, Nat.reduceEqDiff, Nat.reduceLT, Nat.reduceLeDiff, Nat.reduceMul, Nat.reduceSub, reduceCtorEq, tbAJa2, Try.results11, h2, hf]
    refine OkF_of _ (check22_ok a ha) ?_
    simp only [↓rA, rB, Int.reduceLE, Int.reduceLT, Int.reduceToNat, Nat.reduceAdd, Nat.reduceEqDiff, Nat.reduceLT, Nat.reduceLeDiff, Nat.reduceMul, Nat.reduceSub, reduceCtorEq, tbAJa2, Try.results11, h2, hf]
    exact ret_done (by simp [rightM, hf])
end Go.Proofs.Ytopfanlkbepemaa

/- Arrangements: contracts, part o: slices.Insert in the middle. -/
set_option linter.unusedSimpArgs false
set_option maxRecDepth 100000
namespace Go.Proofs.Ytopfanlkbepemaa
open Go.VL Go.Ar Go.Proofs.Ytopfanlkbepemaa

theorem run_overlaps_box {P : Program} (w : World) (tS tR e : TypeId) (ht : P.underlying tS = some (.slice e)) (size : Nat) (hz : ∀ w, (Go.sizeOf e).run P w = .ok size w)
    (a b : Addr) (la ca lb cb : Nat) (hne : a.block ≠ b.block) (tA tB : TypeId) (kA kB : Nat) (hsa : w.shape? a.block = some (tA, kA + 1)) (hsb : w.shape? b.block = some (tB, kB)) (hfb : ∀ o, w.frozen? ⟨b.block, o, none⟩ = false) (hsp : b.spot = none) :
    (Extern.SlicesOverlaps.overlaps #[tS, tS] #[tR] #[.slice (some a) la ca, .slice (some b) lb cb]).run P w = .ok (.bool false) w := by
  have hnb : (a.block != b.block) = true := by simpa using hne
  have hnb' : (a.block == b.block) = false := by simpa using hne
  have hb0 : w.frozen? b = false := by
    have := hfb b.off
    obtain ⟨bb, bo, bs⟩ := b
    simp only at hsp; subst hsp; exact this
  have hb1 := hfb kB
  change Sem.run P (α := Value) (do
    let some t := (#[tS, tS] : Array TypeId)[0]? | stuck "slices.overlaps: no parameter types"
    let .slice elem ← underlying t | stuck "slices.overlaps: slice type expected"
    let size ← sizeOf elem
    match (some a : Option Addr), (some b : Option Addr) with
    | some a, some b =>
      if la = 0 ∨ lb = 0 ∨ size = 0 then pure (Value.bool false)
      else if a.block != b.block && (← frozen a) && (← frozen b) then unsupported .addressObserved
      else do
        if a.block != b.block then do
          noView a; noView b
          if ← mayBeOne a b then return Value.bool ((← choose (.extern "sameAddr.stringBytes" 2)) == 1)
        pure (Value.bool (a.block == b.block && a.off < b.off + lb * size && b.off < a.off + la * size))
    | _, _ => pure (Value.bool false)) w = _
  by_cases h0 : la = 0 ∨ lb = 0 ∨ size = 0
  · simp [run_underlying ht, hz, h0]
  · cases h1 : w.frozen? a <;> cases h2 : w.frozen? { block := a.block, off := kA + 1 } <;>
      simp [run_underlying ht, hz, h0, hnb, hnb', frozen, noView, viewAt, mayBeOne, stringish, shape, Sem.run, hsa, hsb, hb0, hb1, h1, h2]

theorem overlaps_ext (S : St) (cs g : List V) (b o n c : Nat) (own : Option Value) (hb : getB S.boxes b = some cs) (hg : g.length = 2) : ExtV Try.prog S 90 [.list own 2 [g], .lit (.slice (some ⟨b, o, none⟩) n c)] (vbool false) := by
  intro w I xs hH hr
  match xs, hr with
  | [x, y], hr =>
    simp only [V.reps, V.rep, and_true] at hr
    obtain ⟨⟨_, a, ca, rfl, _, hl⟩, rfl⟩ := hr
    obtain ⟨b', o', rfl, hq⟩ := hl.resolve_left (by simp)
    match g, hg, hq with
    | g0 :: gr, _, hq =>
      simp only [V.lies] at hq
      have hq := hq.1
      simp only [V.ats] at hq
      obtain ⟨⟨x0, hc, hI, _⟩, _⟩ := hq
      obtain ⟨arr, e, h1, _, _, h4⟩ := hH.bx _ (getB_mem hb)
      have hne : b' ≠ b := fun h => h4 o' (h ▸ hI)
      have hs : ∃ t k, w.shape? b' = some (t, k + 1) := by
        unfold World.cell? at hc
        unfold World.shape?
        split at hc
        · rename_i c0 e0 f0 h0
          rw [h0]
          simp only [Option.isSome_none, Bool.false_eq_true, if_false] at hc
          have := (Array.getElem?_eq_some_iff.1 hc).1
          exact ⟨e0, c0.size - 1, by simp only [Option.some.injEq, Prod.mk.injEq, true_and]; omega⟩
        · cases hc
      obtain ⟨t, k, hs⟩ := hs
      have hs2 : w.shape? b = some (e, arr.size) := by unfold World.shape?; rw [h1]
      have hf : ∀ o, w.frozen? ⟨b, o, none⟩ = false := fun o => by unfold World.frozen?; rw [h1]; simp
      refine ⟨.bool false, w, ?_, .inl rfl, by simp only [V.rep]⟩
      rw [run_callFunc_extern Try.func90 (by kernel_rfl) (by kernel_rfl) (by kernel_rfl) (e := Extern.SlicesOverlaps.overlaps #[22, 22] #[4]) (by kernel_rfl)]
      have := run_overlaps_box (P := Try.prog) w 22 4 65 (by kernel_rfl) 2 (fun w => by rfl) ⟨b', o', none⟩ ⟨b, o, none⟩ 1 ca n c hne t e k arr.size hs hs2 hf rfl
      simp only [List.length_cons, List.length_nil] at this ⊢
      rw [this]
      rfl
  | [], hr => simp [V.reps] at hr
  | [_], hr => simp [V.reps] at hr
  | _ :: _ :: _ :: _, hr => simp [V.reps] at hr

theorem appZK_box {P : Program} {S : St} {d : Option Nat} {t tx : TypeId} {b o n c : Nat} {kk : IntKind} {j : Int} {K : St → Prop}
    (h : onSome (Todo (P.underlying t)) fun u => sliceOf u fun e => onSome (Todo (P.underlying tx)) fun ux => And2 (Todo (∃ q, ux = .int q)) (onSome (Todo (tsz P e)) fun k => onSome (Todo (tby P e)) fun by_ => onSome (Todo (tzr P e)) fun z => onSome (Todo (getB S.boxes b)) fun cs =>
      And2 (Todo ((0 < by_ ∧ 0 < k ∧ z.length = k ∧ okC (z.map .lit) = true) ∧ 0 < j ∧ o + n * k ≤ cs.length ∧ c < n + j.toNat ∧ (n + j.toNat) * by_ ≤ 140737488355328))
        (Fresh2 (blks S.boxes S.rows) (n + j.toNat) (fun b' c' => K ((S.addBox b' ((cs.drop o).take (n * k) ++ anys ((c' - n) * k))).put d (.lit (.slice (some ⟨b', 0, none⟩) (n + j.toNat) c')))) .mk))) :
    appZK P S d t tx (.lit (.slice (some ⟨b, o, none⟩) n c)) (.lit (.int kk j)) K := by
  refine appZK_int _ _ _ _ _ _ _ _ _ _ _ _ ?_
  simp only [Todo_eq, And2, Fresh2] at h
  revert h
  unfold onSome
  cases P.underlying t with
  | none => exact id
  | some u =>
    cases u <;> simp only [sliceOf] <;> try exact id
    cases P.underlying tx with
    | none => exact id
    | some ux =>
      simp only []
      rintro ⟨h1, h⟩
      refine ⟨h1, ?_⟩
      revert h
      split <;> try exact id
      split <;> try exact id
      split <;> try exact id
      split <;> try exact id
      rintro ⟨⟨q1, q2, q3, q4, q5⟩, h⟩
      exact ⟨q1, q2, q3, q4, q5, h⟩
theorem anys_add (a b : Nat) : anys (a + b) = anys a ++ anys b := by unfold anys; rw [List.replicate_append_replicate]
theorem grow1 (cs g : List V) (i n c' : Nat) (hg : g.length = 2) (hi : i < n) (hcs : n * 2 ≤ cs.length) (hc : n + 1 ≤ c') :
    List.take (i * 2) (List.take (i * 2) cs ++ anys ((c' - i) * 2)) ++ List.take (min 1 (n + 1 - i) * 2) [g].flatten ++ List.drop (i * 2 + min 1 (n + 1 - i) * 2) (List.take (i * 2) cs ++ anys ((c' - i) * 2))
      = List.take (i * 2) cs ++ g ++ anys ((c' - (i + 1)) * 2) := by
  have hA : (List.take (i * 2) cs).length = i * 2 := by rw [List.length_take]; omega
  have hm : min 1 (n + 1 - i) = 1 := by omega
  have hs : (c' - i) * 2 = 2 + (c' - (i + 1)) * 2 := by omega
  rw [hm, List.take_left' hA, show [g].flatten = g by simp, List.take_of_length_le (l := g) (by omega), hs, anys_add, show i * 2 + 1 * 2 = i * 2 + 2 by omega, ← List.drop_drop, List.drop_left' hA, List.drop_left' (anys_len 2)]
theorem grow2 (cs g : List V) (i n c' : Nat) (hg : g.length = 2) (hi : i < n) (hcs : n * 2 ≤ cs.length) (hc : n + 1 ≤ c') :
    List.take ((i + 1) * 2) (List.take (i * 2) cs ++ g ++ anys ((c' - (i + 1)) * 2)) ++ List.take (min (n - i) (n + 1 - (i + 1)) * 2) (List.take ((n - i) * 2) (List.drop (i * 2) cs)) ++ List.drop ((i + 1) * 2 + min (n - i) (n + 1 - (i + 1)) * 2) (List.take (i * 2) cs ++ g ++ anys ((c' - (i + 1)) * 2))
      = List.take (i * 2) cs ++ g ++ List.drop (i * 2) (List.take (n * 2) cs) ++ anys ((c' - (n + 1)) * 2) := by
  have hA : (List.take (i * 2) cs ++ g).length = (i + 1) * 2 := by rw [List.length_append, List.length_take]; omega
  have hm : min (n - i) (n + 1 - (i + 1)) = n - i := by omega
  have hs : (c' - (i + 1)) * 2 = (n - i) * 2 + (c' - (n + 1)) * 2 := by omega
  rw [hm, List.take_left' hA, ← List.drop_drop, List.drop_left' hA, hs, anys_add, List.drop_left' (anys_len _), List.drop_take, show n * 2 - i * 2 = (n - i) * 2 by omega, List.take_take, Nat.min_self]
theorem place2 (cs g : List V) (i n c : Nat) (hg : g.length = 2) (hi : i < n) (hcs : cs.length = c * 2) (hc : n + 1 ≤ c) :
    List.take (i * 2) (List.take ((i + 1) * 2) cs ++ List.take (min (n + 1 - i) (n + 1 - (i + 1)) * 2) (List.take ((n + 1 - i) * 2) (List.drop (i * 2) cs)) ++ List.drop ((i + 1) * 2 + min (n + 1 - i) (n + 1 - (i + 1)) * 2) cs) ++ List.take (min 1 (n + 1 - i) * 2) [g].flatten ++
        List.drop (i * 2 + min 1 (n + 1 - i) * 2) (List.take ((i + 1) * 2) cs ++ List.take (min (n + 1 - i) (n + 1 - (i + 1)) * 2) (List.take ((n + 1 - i) * 2) (List.drop (i * 2) cs)) ++ List.drop ((i + 1) * 2 + min (n + 1 - i) (n + 1 - (i + 1)) * 2) cs)
      = List.take (i * 2) cs ++ g ++ List.drop (i * 2) (List.take (n * 2) cs) ++ List.drop ((n + 1) * 2) cs := by
  have hm : min (n + 1 - i) (n + 1 - (i + 1)) = n - i := by omega
  have hm1 : min 1 (n + 1 - i) = 1 := by omega
  have hA : (List.take ((i + 1) * 2) cs).length = (i + 1) * 2 := by rw [List.length_take]; omega
  rw [hm, hm1, show [g].flatten = g by simp, List.take_of_length_le (l := g) (by omega), List.append_assoc (List.take ((i + 1) * 2) cs), List.take_append_of_le_length (by omega), List.take_take, show min (i * 2) ((i + 1) * 2) = i * 2 by omega, show i * 2 + 1 * 2 = (i + 1) * 2 by omega, List.drop_left' hA, List.take_take, show min ((n - i) * 2) ((n + 1 - i) * 2) = (n - i) * 2 by omega, show (i + 1) * 2 + (n - i) * 2 = (n + 1) * 2 by omega, List.drop_take, show n * 2 - i * 2 = (n - i) * 2 by omega]
  simp only [List.append_assoc]
set_option linter.defProp false in
def tbAGk0 := (And.intro (And.intro (And.intro (And.intro (And.intro (And.intro Ty.sz3 Ty.by3) (And.intro Ty.ag3 (And.intro Ty.zr3 Ty.un3))) (And.intro (And.intro Ty.sz4 (And.intro Ty.by4 Ty.ag4)) (And.intro Ty.zr4 (And.intro Ty.un4 Ty.sz9)))) (And.intro (And.intro (And.intro Ty.by9 Ty.ag9) (And.intro Ty.zr9 (And.intro Ty.un9 Ty.sz22))) (And.intro (And.intro Ty.by22 (And.intro Ty.ag22 Ty.zr22)) (And.intro Ty.un22 (And.intro Ty.sz41 Ty.by41))))) (And.intro (And.intro (And.intro (And.intro Ty.ag41 Ty.zr41) (And.intro Ty.un41 (And.intro Ty.sz53 Ty.by53))) (And.intro (And.intro Ty.ag53 (And.intro Ty.zr53 Ty.fl53_0)) (And.intro Ty.pl53_0 (And.intro Ty.fl53_1 Ty.pl53_1)))) (And.intro (And.intro (And.intro Ty.sz54 Ty.by54) (And.intro Ty.ag54 (And.intro Ty.zr54 Ty.un54))) (And.intro (And.intro Ty.sz56 (And.intro Ty.by56 Ty.ag56)) (And.intro Ty.zr56 (And.intro Ty.fl56_0 Ty.pl56_0)))))) (And.intro (And.intro (And.intro (And.intro (And.intro Ty.fl56_1 Ty.pl56_1) (And.intro Ty.fl56_2 (And.intro Ty.pl56_2 Ty.fl56_3))) (And.intro (And.intro Ty.pl56_3 (And.intro Ty.fl56_4 Ty.pl56_4)) (And.intro Ty.fl56_5 (And.intro Ty.pl56_5 Ty.fl56_6)))) (And.intro (And.intro (And.intro Ty.pl56_6 Ty.sz61) (And.intro Ty.by61 (And.intro Ty.ag61 Ty.zr61))) (And.intro (And.intro Ty.fl61_0 (And.intro Ty.pl61_0 Ty.fl61_1)) (And.intro Ty.pl61_1 (And.intro Ty.fl61_2 Ty.pl61_2))))) (And.intro (And.intro (And.intro (And.intro Ty.sz65 Ty.by65) (And.intro Ty.ag65 (And.intro Ty.zr65 Ty.fl65_0))) (And.intro (And.intro Ty.pl65_0 (And.intro Ty.fl65_1 Ty.pl65_1)) (And.intro Ty.sz109 (And.intro Ty.by109 Ty.ag109)))) (And.intro (And.intro (And.intro Ty.zr109 Ty.fl109_0) (And.intro Ty.pl109_0 (And.intro Ty.fl109_1 Ty.pl109_1))) (And.intro (And.intro Ty.fl109_2 (And.intro Ty.pl109_2 Ty.eq53)) (And.intro Ty.eq109 (And.intro Ty.cb90 Ty.cb91)))))))
theorem insMid_ok (cs : List V) (i n c ba : Nat) (g : List V) (own : Option Value) (hg : g.length = 2) (hcs : cs.length = c * 2) (hi : i < n) (hn : n ≤ c) (hnb : n ≤ big) : Ok Try.prog 77 [.lit (.slice (some ⟨ba, 0, none⟩) n c), vint i, .list own 2 [g]] [(ba, .c cs)] fun v bs rs => rs = [] ∧ ∃ b c' rest, n + 1 ≤ c' ∧ v = .lit (.slice (some ⟨b, 0, none⟩) (n + 1) c') ∧ rest.length = (c' - (n + 1)) * 2 ∧ bs = [(b, .c (cs.take (i * 2) ++ g ++ (cs.take (n * 2)).drop (i * 2) ++ rest))] := by
  unfold big at hnb
  have hne : ¬ (i : Int) = (n : Int) := by omega
  have w1 : IntKind.i64.wrap ((n : Int) + ((1 : Nat) : Int)) = ((n + 1 : Nat) : Int) := by rw [wrap_id (by omega) (by omega)]; rfl
  have w2 : IntKind.i64.wrap ((i : Int) + ((1 : Nat) : Int)) = ((i + 1 : Nat) : Int) := by rw [wrap_id (by omega) (by omega)]; rfl
  have w3 : IntKind.i64.wrap (((n + 1 : Nat) : Int) - (i : Int)) = ((n + 1 - i : Nat) : Int) := by rw [wrap_id (by omega) (by omega)]; omega
  refine Ok.of_ex Ty.mixed Try.func77 rfl (by simp [Try.ntmps77]) (by kernel_rfl) fun F w0 I0 => ?_
  simp only [↓rA, rB, Int.reduceLE, Int.reduceLT, Int.reduceToNat, Nat.reduceAdd, Nat.reduceEqDiff, Nat.reduceLT, Nat.reduceLeDiff, Nat.reduceMul, Nat.reduceSub, reduceCtorEq, tbAGk0, Try.results77]
  refine ⟨by omega, ?_⟩
  simp only [↓rA, rB, Int.reduceLE, Int.reduceLT, Int.reduceToNat, Nat.reduceAdd, Nat.reduceEqDiff, Nat.reduceLT, Nat.reduceLeDiff, Nat.reduceMul, Nat.reduceSub, reduceCtorEq, tbAGk0, Try.results77, show ¬ ((1 : Nat) : Int) = 0 by decide, hne, w1]
  refine ⟨hn, ?_⟩
  by_cases hgr : c < n + 1
  · have hgr' : ((c : Int) < ((n + 1 : Nat) : Int)) := by omega
    have z1 : ¬ c = 0 := by omega
    have z2 : ¬ c = i := by omega
    have z3 : i + (n + 1 - i) = n + 1 := by omega
    have z4 : (0 : Int) < ((n + 1 - i : Nat) : Int) := by omega
    have z5 : i ≤ c := by omega
    have z6 : i * 2 ≤ cs.length := by omega
    have z7 : c < n + 1 := hgr
    have z8 : (n + 1) * 40 ≤ 140737488355328 := by omega
    simp only [↓rA, rB, Int.reduceLE, Int.reduceLT, Int.reduceToNat, Nat.reduceAdd, Nat.reduceEqDiff, Nat.reduceLT, Nat.reduceLeDiff, Nat.reduceMul, Nat.reduceSub, reduceCtorEq, tbAGk0, Try.results77, hgr', w1, w2, w3, z1, z2, z5]
    refine appZK_box ?_
    simp only [↓rA, rB, Int.reduceLE, Int.reduceLT, Int.reduceToNat, Nat.reduceAdd, Nat.reduceEqDiff, Nat.reduceLT, Nat.reduceLeDiff, Nat.reduceMul, Nat.reduceSub, reduceCtorEq, tbAGk0, Try.results77, z3, z4, z6, z7, z8, TypeDesc.int.injEq, exists_eq']
    refine fun b' c' hb hc' => ?_
    replace hb := newb hb
    try simp only [Nb] at hb
    have y1 : ¬ c' = 0 := by omega
    have y2 : ¬ c' = i := by omega
    have y3 : ¬ c' = i + 1 := by omega
    have y4 : i ≤ n + 1 := by omega
    have y5 : i ≤ n := by omega
    have y6 : i + 1 ≤ n + 1 := by omega
    simp only [↓rA, rB, Int.reduceLE, Int.reduceLT, Int.reduceToNat, Nat.reduceAdd, Nat.reduceEqDiff, Nat.reduceLT, Nat.reduceLeDiff, Nat.reduceMul, Nat.reduceSub, reduceCtorEq, tbAGk0, Try.results77, hb, z1, z2, z3, y1, y2, y3, y4, y5, y6, hn, hc', w2]
    have hl0 : (List.take (i * 2) cs ++ anys ((c' - i) * 2)).length = c' * 2 := by rw [List.length_append, List.length_take, anys_len]; omega
    refine ⟨by rw [hl0]; omega, by omega, ?_⟩
    rw [grow1 cs g i n c' hg hi (by omega) hc']
    refine ⟨?_, ?_⟩
    · rw [List.length_append, List.length_append, List.length_take, anys_len, hg]; omega
    · refine ⟨_, [_], [], Le.refl _, List.Sublist.cons_cons _ (List.nil_sublist _), List.nil_sublist _, rfl, b', c', _, hc', rfl, anys_len _, ?_⟩
      rw [grow2 cs g i n c' hg hi (by omega) hc']
  · have hgr' : ¬ ((c : Int) < ((n + 1 : Nat) : Int)) := by omega
    have z1 : ¬ c = 0 := by omega
    have z2 : ¬ c = i := by omega
    have z3 : n + 1 ≤ c := by omega
    have z4 : ¬ c = i + 1 := by omega
    have z5 : i ≤ n := by omega
    simp only [↓rA, rB, Int.reduceLE, Int.reduceLT, Int.reduceToNat, Nat.reduceAdd, Nat.reduceEqDiff, Nat.reduceLT, Nat.reduceLeDiff, Nat.reduceMul, Nat.reduceSub, reduceCtorEq, tbAGk0, Try.results77, hgr', w1, w2, w3, z1, z2, z3, z4, z5]
    refine ExtF_of _ (overlaps_ext _ cs g ba _ _ _ own (by simp only [↓rA, rB, Int.reduceLE, Int.reduceLT, Int.reduceToNat, Nat.reduceAdd, Nat.reduceEqDiff, Nat.reduceLT, Nat.reduceLeDiff, Nat.reduceMul, Nat.reduceSub, reduceCtorEq, tbAGk0, Try.results77]; try rfl) hg) ?_
    simp only [↓rA, rB, Int.reduceLE, Int.reduceLT, Int.reduceToNat, Nat.reduceAdd, Nat.reduceEqDiff, Nat.reduceLT, Nat.reduceLeDiff, Nat.reduceMul, Nat.reduceSub, reduceCtorEq, tbAGk0, Try.results77, w1, w2, w3, z1, z2, z3, z4, z5]
    refine ⟨by omega, by omega, by omega, by omega, ?_⟩
    have hm : min (n + 1 - i) (n + 1 - (i + 1)) = n - i := by omega
    refine ⟨?_, ?_⟩
    · rw [hm]
      simp only [List.length_append, List.length_take, List.length_drop]
      omega
    · refine ⟨_, [_], [], Le.refl _, List.Sublist.refl _, List.nil_sublist _, rfl, ba, c, cs.drop ((n + 1) * 2), z3, rfl, by rw [List.length_drop, hcs]; omega, ?_⟩
      rw [place2 cs g i n c hg hi hcs z3]
end Go.Proofs.Ytopfanlkbepemaa

/- Arrangements: contracts, part p: slices.Insert anywhere; the place of a key, made where there is none. -/
set_option linter.unusedSimpArgs false
set_option maxRecDepth 100000
namespace Go.Proofs.Ytopfanlkbepemaa
open Go.VL Go.Ar Go.Proofs.Ytopfanlkbepemaa
-- @call 60

/-- What at hands back: the cells of the index, with the place of the key. -/
def AtQ (l : List GI) (key : Str) (bi : Nat) (v : V) (bs : List (Nat × B)) : Prop :=
  ∃ (b c : Nat) (L1 L2 : List GI) (D : V) (rest : List V), v = .lit (.pointer (some ⟨b, L1.length * 2, none⟩)) ∧
    bs = [(bi, .c [.lit (.slice (some ⟨b, 0, none⟩) (L1.length + 1 + L2.length) c), keyFn]), (b, .c ((L1.map cGI).flatten ++ vstr key :: D :: ((L2.map cGI).flatten ++ rest)))] ∧
    L1.length + 1 + L2.length ≤ c ∧ rest.length = (c - (L1.length + 1 + L2.length)) * 2 ∧ b ≠ bi ∧
    ((∃ y ds, D = .list (some y) 10 (ds.map cDlt) ∧ l = L1 ++ (key, y, ds) :: L2) ∨ (D = nilS ∧ l = L1 ++ L2 ∧ (∀ p ∈ L1, less p.1 key = true) ∧ ∀ p ∈ L2, less key p.1 = true))

theorem Ok.permB {P : Program} {f : FuncId} {args : List V} {bs0 : List (Nat × B)} {Q Q' : V → List (Nat × B) → List VL.Row → Prop} (h : Ok P f args bs0 Q) (hq : ∀ v bs rs, Q v bs rs → ∃ bs', bs.Perm bs' ∧ Q' v bs' rs) : Ok P f args bs0 Q' := by
  intro w I xs hr hH
  refine (h w I xs hr hH).mono fun e w' ⟨x, v, bs, rs, I', he, hv, hk, hh, hn, hQ⟩ => ?_
  obtain ⟨bs', hp, hQ'⟩ := hq _ _ _ hQ
  exact ⟨x, v, bs', rs, I', he, hv, hk, hh.perm hp, fun b hb => hn b (((List.Perm.append_right _ (hp.map _)).mem_iff).2 hb), hQ'⟩
set_option linter.defProp false in
def tbAGl0 := (And.intro (And.intro (And.intro (And.intro (And.intro (And.intro Ty.sz3 (And.intro Ty.by3 Ty.ag3)) (And.intro (And.intro Ty.zr3 Ty.un3) (And.intro Ty.sz4 Ty.by4))) (And.intro (And.intro Ty.ag4 (And.intro Ty.zr4 Ty.un4)) (And.intro (And.intro Ty.sz9 Ty.by9) (And.intro Ty.ag9 Ty.zr9)))) (And.intro (And.intro (And.intro Ty.un9 (And.intro Ty.sz22 Ty.by22)) (And.intro (And.intro Ty.ag22 Ty.zr22) (And.intro Ty.un22 Ty.sz41))) (And.intro (And.intro Ty.by41 (And.intro Ty.ag41 Ty.zr41)) (And.intro (And.intro Ty.un41 Ty.sz53) (And.intro Ty.by53 Ty.ag53))))) (And.intro (And.intro (And.intro (And.intro Ty.zr53 (And.intro Ty.fl53_0 Ty.pl53_0)) (And.intro (And.intro Ty.fl53_1 Ty.pl53_1) (And.intro Ty.sz54 Ty.by54))) (And.intro (And.intro Ty.ag54 (And.intro Ty.zr54 Ty.un54)) (And.intro (And.intro Ty.sz56 Ty.by56) (And.intro Ty.ag56 Ty.zr56)))) (And.intro (And.intro (And.intro Ty.fl56_0 (And.intro Ty.pl56_0 Ty.fl56_1)) (And.intro (And.intro Ty.pl56_1 Ty.fl56_2) (And.intro Ty.pl56_2 Ty.fl56_3))) (And.intro (And.intro (And.intro Ty.pl56_3 Ty.fl56_4) (And.intro Ty.pl56_4 Ty.fl56_5)) (And.intro (And.intro Ty.pl56_5 Ty.fl56_6) (And.intro Ty.pl56_6 Ty.sz61)))))) (And.intro (And.intro (And.intro (And.intro (And.intro Ty.by61 (And.intro Ty.ag61 Ty.zr61)) (And.intro (And.intro Ty.fl61_0 Ty.pl61_0) (And.intro Ty.fl61_1 Ty.pl61_1))) (And.intro (And.intro Ty.fl61_2 (And.intro Ty.pl61_2 Ty.sz65)) (And.intro (And.intro Ty.by65 Ty.ag65) (And.intro Ty.zr65 Ty.fl65_0)))) (And.intro (And.intro (And.intro Ty.pl65_0 (And.intro Ty.fl65_1 Ty.pl65_1)) (And.intro (And.intro Ty.sz68 Ty.by68) (And.intro Ty.ag68 Ty.zr68))) (And.intro (And.intro Ty.un68 (And.intro Ty.sz70 Ty.by70)) (And.intro (And.intro Ty.ag70 Ty.sz73) (And.intro Ty.by73 Ty.ag73))))) (And.intro (And.intro (And.intro (And.intro Ty.zr73 (And.intro Ty.sz75 Ty.by75)) (And.intro (And.intro Ty.ag75 Ty.zr75) (And.intro Ty.fl75_0 Ty.pl75_0))) (And.intro (And.intro Ty.fl75_1 (And.intro Ty.pl75_1 Ty.sz86)) (And.intro (And.intro Ty.by86 Ty.ag86) (And.intro Ty.zr86 Ty.un86)))) (And.intro (And.intro (And.intro Ty.sz109 (And.intro Ty.by109 Ty.ag109)) (And.intro (And.intro Ty.zr109 Ty.fl109_0) (And.intro Ty.pl109_0 Ty.fl109_1))) (And.intro (And.intro (And.intro Ty.pl109_1 Ty.fl109_2) (And.intro Ty.pl109_2 Ty.eq53)) (And.intro (And.intro Ty.eq109 Ty.cb37) (And.intro Ty.cb60 Ty.cb77)))))))
theorem atNil_ok (key : Str) (bi : Nat) : Ok Try.prog 56 [ptr bi, vstr key, .agg [vstr key, nilS]] [(bi, .c [nilS, keyFn])] fun v bs rs => rs = [] ∧ AtQ [] key bi v bs := by
  refine Ok.permB (Q := fun v bs rs => rs = [] ∧ ∃ bs', bs.Perm bs' ∧ AtQ [] key bi v bs') ?_ (fun v bs rs ⟨h1, bs', hp, h⟩ => ⟨bs', hp, h1, h⟩)
  refine Ok.of_exM [(3, 4)] Ty.mixed Try.func56 rfl (by simp [Try.ntmps56]) (by kernel_rfl) fun F w0 I0 => ?_
  simp only [↓rA, rB, Int.reduceLE, Int.reduceLT, Int.reduceToNat, Nat.reduceAdd, Nat.reduceEqDiff, Nat.reduceLT, Nat.reduceLeDiff, Nat.reduceMul, Nat.reduceSub, reduceCtorEq, tbAGl0, Try.results56]
  refine fun bf hf => ?_; replace hf := newb hf; try simp only [Nb] at hf
  simp only [↓rA, rB, Int.reduceLE, Int.reduceLT, Int.reduceToNat, Nat.reduceAdd, Nat.reduceEqDiff, Nat.reduceLT, Nat.reduceLeDiff, Nat.reduceMul, Nat.reduceSub, reduceCtorEq, tbAGl0, Try.results56, hf]
  refine OkF_with [_] [_] (List.perm_append_comm (l₁ := [_]) (l₂ := [_])) (placeNil_ok key bi) ?_
  rintro v bs rs ⟨rfl, rfl, rfl⟩
  simp only [↓rA, rB, Int.reduceLE, Int.reduceLT, Int.reduceToNat, Nat.reduceAdd, Nat.reduceEqDiff, Nat.reduceLT, Nat.reduceLeDiff, Nat.reduceMul, Nat.reduceSub, reduceCtorEq, tbAGl0, Try.results56, hf]
  refine fun y => ?_
  refine OkF_withN [] [_, _] (List.Perm.refl _) (insNil_ok [vstr key, nilS] (some y)) ?_
  rintro v bs rs ⟨rfl, b, c, hc, rfl, rfl⟩ hnd
  simp only [List.map_cons, List.map_nil, List.nodup_cons, List.mem_cons, List.not_mem_nil, or_false, not_or, List.cons_append, List.nil_append] at hnd
  have n1 : b ≠ bi := hnd.1.1
  have n2 : b ≠ bf := hnd.1.2
  simp only [↓rA, rB, Int.reduceLE, Int.reduceLT, Int.reduceToNat, Nat.reduceAdd, Nat.reduceEqDiff, Nat.reduceLT, Nat.reduceLeDiff, Nat.reduceMul, Nat.reduceSub, reduceCtorEq, tbAGl0, Try.results56, hf, n1, n2, Ne.symm n1, Ne.symm n2]
  refine ⟨_, [_, _], [], Le.refl _, List.Sublist.cons_cons _ (List.Sublist.cons_cons _ (List.nil_sublist _)), List.nil_sublist _, rfl, _, List.Perm.swap _ _ _, b, c, [], [], nilS, anys ((c - 1) * 2), rfl, ?_, hc, anys_len _, n1, .inr ⟨rfl, rfl, by simp, by simp⟩⟩
  rfl

theorem ins_ok (cs : List V) (i n c ba : Nat) (g : List V) (own : Option Value) (hg : g.length = 2) (hcs : cs.length = c * 2) (hi : i ≤ n) (hn : n ≤ c) (hnb : n ≤ big) : Ok Try.prog 77 [.lit (.slice (some ⟨ba, 0, none⟩) n c), vint i, .list own 2 [g]] [(ba, .c cs)] fun v bs rs => rs = [] ∧ ∃ b c' rest, n + 1 ≤ c' ∧ v = .lit (.slice (some ⟨b, 0, none⟩) (n + 1) c') ∧ rest.length = (c' - (n + 1)) * 2 ∧ bs = [(b, .c (cs.take (i * 2) ++ g ++ (cs.take (n * 2)).drop (i * 2) ++ rest))] := by
  rcases Nat.lt_or_ge i n with h | h
  · exact insMid_ok cs i n c ba g own hg hcs h hn hnb
  · obtain rfl : i = n := Nat.le_antisymm hi h
    refine Ok.mono (insEnd_ok cs i c ba g own hg hcs hn hnb) fun v bs rs ⟨h1, b, c', h2, h3, h4⟩ => ⟨h1, b, c', _, h2, h3, anys_len _, ?_⟩
    rw [h4, List.drop_of_length_le (by rw [List.length_take]; omega), List.append_nil]

theorem cells_split (L1 L2 : List GI) (rest : List V) : ((L1 ++ L2).map cGI).flatten ++ rest = (L1.map cGI).flatten ++ ((L2.map cGI).flatten ++ rest) := by simp
set_option linter.defProp false in
def tbAGl1 := (And.intro (And.intro (And.intro (And.intro (And.intro (And.intro Ty.sz3 (And.intro Ty.by3 Ty.ag3)) (And.intro (And.intro Ty.zr3 Ty.un3) (And.intro Ty.sz4 Ty.by4))) (And.intro (And.intro Ty.ag4 (And.intro Ty.zr4 Ty.un4)) (And.intro (And.intro Ty.sz9 Ty.by9) (And.intro Ty.ag9 Ty.zr9)))) (And.intro (And.intro (And.intro Ty.un9 (And.intro Ty.sz22 Ty.by22)) (And.intro (And.intro Ty.ag22 Ty.zr22) (And.intro Ty.un22 Ty.sz41))) (And.intro (And.intro Ty.by41 (And.intro Ty.ag41 Ty.zr41)) (And.intro (And.intro Ty.un41 Ty.sz53) (And.intro Ty.by53 Ty.ag53))))) (And.intro (And.intro (And.intro (And.intro Ty.zr53 (And.intro Ty.fl53_0 Ty.pl53_0)) (And.intro (And.intro Ty.fl53_1 Ty.pl53_1) (And.intro Ty.sz54 Ty.by54))) (And.intro (And.intro Ty.ag54 (And.intro Ty.zr54 Ty.un54)) (And.intro (And.intro Ty.sz56 Ty.by56) (And.intro Ty.ag56 Ty.zr56)))) (And.intro (And.intro (And.intro Ty.fl56_0 (And.intro Ty.pl56_0 Ty.fl56_1)) (And.intro (And.intro Ty.pl56_1 Ty.fl56_2) (And.intro Ty.pl56_2 Ty.fl56_3))) (And.intro (And.intro (And.intro Ty.pl56_3 Ty.fl56_4) (And.intro Ty.pl56_4 Ty.fl56_5)) (And.intro (And.intro Ty.pl56_5 Ty.fl56_6) (And.intro Ty.pl56_6 Ty.sz61)))))) (And.intro (And.intro (And.intro (And.intro (And.intro Ty.by61 (And.intro Ty.ag61 Ty.zr61)) (And.intro (And.intro Ty.fl61_0 Ty.pl61_0) (And.intro Ty.fl61_1 Ty.pl61_1))) (And.intro (And.intro Ty.fl61_2 (And.intro Ty.pl61_2 Ty.sz65)) (And.intro (And.intro Ty.by65 Ty.ag65) (And.intro Ty.zr65 Ty.fl65_0)))) (And.intro (And.intro (And.intro Ty.pl65_0 (And.intro Ty.fl65_1 Ty.pl65_1)) (And.intro (And.intro Ty.sz68 Ty.by68) (And.intro Ty.ag68 Ty.zr68))) (And.intro (And.intro Ty.un68 (And.intro Ty.sz70 Ty.by70)) (And.intro (And.intro Ty.ag70 Ty.sz73) (And.intro Ty.by73 Ty.ag73))))) (And.intro (And.intro (And.intro (And.intro Ty.zr73 (And.intro Ty.sz75 Ty.by75)) (And.intro (And.intro Ty.ag75 Ty.zr75) (And.intro Ty.fl75_0 Ty.pl75_0))) (And.intro (And.intro Ty.fl75_1 (And.intro Ty.pl75_1 Ty.sz86)) (And.intro (And.intro Ty.by86 Ty.ag86) (And.intro Ty.zr86 Ty.un86)))) (And.intro (And.intro (And.intro Ty.sz109 (And.intro Ty.by109 Ty.ag109)) (And.intro (And.intro Ty.zr109 Ty.fl109_0) (And.intro Ty.pl109_0 Ty.fl109_1))) (And.intro (And.intro (And.intro Ty.pl109_1 Ty.fl109_2) (And.intro Ty.pl109_2 Ty.eq53)) (And.intro (And.intro Ty.eq109 Ty.cb37) (And.intro Ty.cb60 Ty.cb77)))))))
theorem atBox_ok (l : List GI) (key : Str) (rest : List V) (ba c bi : Nat) (hl : l.length + 1 ≤ big) (hs : Sorted l) (h3 : ba ≠ bi) (hlc : l.length ≤ c) (hr : rest.length = (c - l.length) * 2) :
    Ok Try.prog 56 [ptr bi, vstr key, .agg [vstr key, nilS]] [(bi, .c [.lit (.slice (some ⟨ba, 0, none⟩) l.length c), keyFn]), (ba, .c ((l.map cGI).flatten ++ rest))] fun v bs rs => rs = [] ∧ AtQ l key bi v bs := by
  refine Ok.permB (Q := fun v bs rs => rs = [] ∧ ∃ bs', bs.Perm bs' ∧ AtQ l key bi v bs') ?_ (fun v bs rs ⟨h1, bs', hp, h⟩ => ⟨bs', hp, h1, h⟩)
  refine Ok.of_exM [(3, 4)] Ty.mixed Try.func56 rfl (by simp [Try.ntmps56]) (by kernel_rfl) fun F w0 I0 => ?_
  have hcs : ((l.map cGI).flatten ++ rest).length = c * 2 := by rw [List.length_append, cellsG_len, hr]; omega
  simp only [↓rA, rB, Int.reduceLE, Int.reduceLT, Int.reduceToNat, Nat.reduceAdd, Nat.reduceEqDiff, Nat.reduceLT, Nat.reduceLeDiff, Nat.reduceMul, Nat.reduceSub, reduceCtorEq, tbAGl1, Try.results56]
  refine fun bf hf => ?_; replace hf := newb hf; try simp only [Nb] at hf
  simp only [↓rA, rB, Int.reduceLE, Int.reduceLT, Int.reduceToNat, Nat.reduceAdd, Nat.reduceEqDiff, Nat.reduceLT, Nat.reduceLeDiff, Nat.reduceMul, Nat.reduceSub, reduceCtorEq, tbAGl1, Try.results56, hf, h3]
  refine OkF_with [_, _] [_] (List.perm_append_comm (l₁ := [_]) (l₂ := [_, _])) (place_ok l key rest ba c bi (by omega) hs h3) ?_
  rintro v bs rs ⟨rfl, rfl, i, hi, hj, rfl⟩
  by_cases hfd : l[i]?.map (·.1) = some key
  · have hil : i < l.length := by
      rcases Nat.lt_or_ge i l.length with h | h
      · exact h
      · rw [List.getElem?_eq_none h] at hfd; cases hfd
    have hkey : l[i].1 = key := by rw [List.getElem?_eq_getElem hil] at hfd; simpa using hfd
    simp only [↓rA, rB, Int.reduceLE, Int.reduceLT, Int.reduceToNat, Nat.reduceAdd, Nat.reduceEqDiff, Nat.reduceLT, Nat.reduceLeDiff, Nat.reduceMul, Nat.reduceSub, reduceCtorEq, tbAGl1, Try.results56, hf, h3, hfd, hil, Int.ofNat_lt]
    have hsp : l = l.take i ++ (key, l[i].2) :: l.drop (i + 1) := by
      rw [← hkey, ← List.drop_eq_getElem_cons hil, List.take_append_drop]
    have hli : (l.take i).length = i := by rw [List.length_take]; omega
    refine ⟨_, [_, _], [], Le.refl _, List.Sublist.cons_cons _ (List.Sublist.cons_cons _ (List.nil_sublist _)), List.nil_sublist _, rfl, _, List.Perm.refl _, ba, c, l.take i, l.drop (i + 1), .list (some l[i].2.1) 10 (l[i].2.2.map cDlt), rest, by rw [hli], ?_, ?_, ?_, h3, .inl ⟨l[i].2.1, l[i].2.2, rfl, hsp⟩⟩
    · have hn : (l.take i).length + 1 + (l.drop (i + 1)).length = l.length := by rw [hli, List.length_drop]; omega
      rw [hn]
      have hc : (l.map cGI).flatten ++ rest = ((l.take i).map cGI).flatten ++ vstr key :: .list (some l[i].2.1) 10 (l[i].2.2.map cDlt) :: (((l.drop (i + 1)).map cGI).flatten ++ rest) := by
        conv => lhs; rw [hsp]
        simp
      rw [hc]
    · have hn : (l.take i).length + 1 + (l.drop (i + 1)).length = l.length := by rw [hli, List.length_drop]; omega
      rw [hn]; exact hlc
    · have hn : (l.take i).length + 1 + (l.drop (i + 1)).length = l.length := by rw [hli, List.length_drop]; omega
      rw [hn]; exact hr
  · simp only [↓rA, rB, Int.reduceLE, Int.reduceLT, Int.reduceToNat, Nat.reduceAdd, Nat.reduceEqDiff, Nat.reduceLT, Nat.reduceLeDiff, Nat.reduceMul, Nat.reduceSub, reduceCtorEq, tbAGl1, Try.results56, hf, h3, hfd]
    refine fun y => ?_
    refine OkF_withN [_] [_, _] (List.Perm.swap _ _ _) (ins_ok _ i l.length c ba [vstr key, nilS] (some y) rfl hcs hi hlc (by omega)) ?_
    rintro v bs rs ⟨rfl, b, c', rest', hc', rfl, hrest, rfl⟩ hnd
    simp only [List.map_cons, List.map_nil, List.nodup_cons, List.mem_cons, List.not_mem_nil, or_false, not_or, List.cons_append, List.nil_append] at hnd
    have n1 : b ≠ bi := hnd.1.1
    have n2 : b ≠ bf := hnd.1.2
    have hli : (l.take i).length = i := by rw [List.length_take]; omega
    have hsz : (l.take i).length + 1 + (l.drop i).length = l.length + 1 := by rw [hli, List.length_drop]; omega
    have hi2 : (i : Int) < ((l.length + 1 : Nat) : Int) := by omega
    simp only [↓rA, rB, Int.reduceLE, Int.reduceLT, Int.reduceToNat, Nat.reduceAdd, Nat.reduceEqDiff, Nat.reduceLT, Nat.reduceLeDiff, Nat.reduceMul, Nat.reduceSub, reduceCtorEq, tbAGl1, Try.results56, hf, n1, n2, Ne.symm n1, Ne.symm n2, hi2]
    refine ⟨_, [_, _], [], Le.refl _, List.Sublist.cons_cons _ (List.Sublist.cons_cons _ (List.nil_sublist _)), List.nil_sublist _, rfl, _, List.Perm.swap _ _ _, b, c', l.take i, l.drop i, nilS, rest', by rw [hli], ?_, by rw [hsz]; exact hc', by rw [hsz]; exact hrest, n1, .inr ⟨rfl, (List.take_append_drop i l).symm, ?_, ?_⟩⟩
    · have hA : ((l.take i).map cGI).flatten.length = i * 2 := by rw [cellsG_len, hli]
      have hB : ((l.map cGI).flatten ++ rest).take (i * 2) = ((l.take i).map cGI).flatten := by
        conv => lhs; rw [← List.take_append_drop i l, List.map_append, List.flatten_append, List.append_assoc]
        rw [List.take_left' hA]
      have hC : (((l.map cGI).flatten ++ rest).take (l.length * 2)).drop (i * 2) = ((l.drop i).map cGI).flatten := by
        rw [List.take_left' (cellsG_len l)]
        conv => lhs; rw [← List.take_append_drop i l, List.map_append, List.flatten_append]
        rw [List.drop_left' hA]
      rw [hsz, hB, hC]
      simp
    · intro p hp
      obtain ⟨j, hjl, rfl⟩ := List.getElem_of_mem hp
      rw [hli] at hjl
      rw [List.getElem_take]
      exact (hj j (by omega)).1 hjl
    · intro p hp
      obtain ⟨j, hjl, rfl⟩ := List.getElem_of_mem hp
      rw [List.length_drop] at hjl
      rw [List.getElem_drop]
      have h1 : ¬ less l[i + j].1 key = true := fun h => by have := (hj (i + j) (by omega)).2 h; omega
      refine less_total (by simpa using h1) fun e => ?_
      rcases Nat.eq_zero_or_pos j with h0 | h0
      · subst h0
        exact hfd (by rw [List.getElem?_eq_getElem (by omega)]; simpa using e)
      · have hij : less l[i].1 l[i + j].1 = true := (List.pairwise_iff_getElem.1 hs) i (i + j) (by omega) (by omega) (by omega)
        have := (hj i (by omega)).2 (e ▸ hij)
        omega
end Go.Proofs.Ytopfanlkbepemaa

/- Arrangements: contracts, part q: the program's index of differences. -/
set_option linter.unusedSimpArgs false
set_option maxRecDepth 100000
namespace Go.Proofs.Ytopfanlkbepemaa
open Go.VL Go.Ar Go.Proofs.Ytopfanlkbepemaa
-- @call 58

structure OfI (d : List Dlt) (i : Nat) (l : List GI) : Prop where
  keys : l.map (·.1) = keysM (d.take i)
  part : ∀ p ∈ l, p.2.2 = partD (d.take i) p.1
def rowG (p : GI) : VL.Row := ⟨p.2.1, 10, 61⟩
theorem OfI.sorted {d : List Dlt} {i : Nat} {l : List GI} (h : OfI d i l) : Sorted l := by
  have := keysM_sorted (d.take i)
  rw [← h.keys] at this
  exact List.pairwise_map.1 this
theorem OfI.len {d : List Dlt} {i : Nat} {l : List GI} (h : OfI d i l) : l.length ≤ i := by
  have h1 : l.length = (keysM (d.take i)).length := by rw [← h.keys, List.length_map]
  have h2 := keysM_len (d.take i)
  rw [List.length_take] at h2
  omega
theorem OfI.nil (d : List Dlt) : OfI d 0 [] := ⟨rfl, fun p hp => by cases hp⟩
theorem OfI.dlen {d : List Dlt} {i : Nat} {l : List GI} (h : OfI d i l) {p : GI} (hp : p ∈ l) : p.2.2.length ≤ i := by
  rw [h.part p hp]
  have := partD_len (d.take i) p.1
  rw [List.length_take] at this
  omega
theorem OfI.found {d : List Dlt} {i : Nat} (hi : i < d.length) {L1 L2 : List GI} {y y' : Value} {ds : List Dlt} (h : OfI d i (L1 ++ (d[i].row.key, y, ds) :: L2)) : OfI d (i + 1) (L1 ++ (d[i].row.key, y', ds ++ [d[i]]) :: L2) := by
  have hs := h.sorted
  have hk := keysM_take d i hi
  have hin : d[i].row.key ∈ keysM (d.take i) := by rw [← h.keys]; simp
  have hsp := List.pairwise_append.1 hs
  have h1 : ∀ p ∈ L1, ¬ d[i].row.key = p.1 := fun p hp e => less_ne (hsp.2.2 p hp _ List.mem_cons_self) e.symm
  have h2 : ∀ p ∈ L2, ¬ d[i].row.key = p.1 := fun p hp e => less_ne ((List.pairwise_cons.1 hsp.2.1).1 p hp) e
  refine ⟨?_, fun p hp => ?_⟩
  · have e1 : (L1 ++ (d[i].row.key, y', ds ++ [d[i]]) :: L2).map (·.1) = (L1 ++ (d[i].row.key, y, ds) :: L2).map (·.1) := by simp
    rw [e1, h.keys, hk]
    refine ksorted_eq (keysM_sorted _) (insK_sorted (keysM_sorted _)) fun k => ?_
    rw [insK_mem]
    constructor
    · exact .inr
    · rintro (rfl | h)
      · exact hin
      · exact h
  · rw [partD_take d p.1 i hi]
    rcases List.mem_append.1 hp with hp | hp
    · rw [if_neg (h1 p hp), List.append_nil]
      exact h.part p (List.mem_append_left _ hp)
    · rcases List.mem_cons.1 hp with rfl | hp
      · rw [if_pos rfl]
        have := h.part (d[i].row.key, y, ds) (List.mem_append_right _ List.mem_cons_self)
        simp only at this ⊢
        rw [this]
      · rw [if_neg (h2 p hp), List.append_nil]
        exact h.part p (List.mem_append_right _ (List.mem_cons_of_mem _ hp))
theorem OfI.fresh {d : List Dlt} {i : Nat} (hi : i < d.length) {L1 L2 : List GI} {y' : Value} (h : OfI d i (L1 ++ L2)) (h1 : ∀ p ∈ L1, less p.1 d[i].row.key = true) (h2 : ∀ p ∈ L2, less d[i].row.key p.1 = true) : OfI d (i + 1) (L1 ++ (d[i].row.key, y', [d[i]]) :: L2) := by
  have hs := h.sorted
  have hk := keysM_take d i hi
  have hsp := List.pairwise_append.1 hs
  have hno : ¬ d[i].row.key ∈ keysM (d.take i) := by
    rw [← h.keys, List.map_append, List.mem_append, List.mem_map, List.mem_map]
    rintro (⟨p, hp, e⟩ | ⟨p, hp, e⟩)
    · exact less_ne (h1 p hp) e
    · exact less_ne (h2 p hp) e.symm
  refine ⟨?_, fun p hp => ?_⟩
  · rw [hk]
    refine ksorted_eq ?_ (insK_sorted (keysM_sorted _)) fun k => ?_
    · refine List.pairwise_map.2 (List.pairwise_append.2 ⟨hsp.1, List.pairwise_cons.2 ⟨h2, hsp.2.1⟩, fun a ha b hb => ?_⟩)
      rcases List.mem_cons.1 hb with rfl | hb
      · exact h1 a ha
      · exact hsp.2.2 a ha b hb
    · rw [insK_mem, ← h.keys]
      simp only [List.map_append, List.map_cons, List.mem_append, List.mem_cons]
      constructor
      · rintro (h | h | h)
        · exact .inr (.inl h)
        · exact .inl h
        · exact .inr (.inr h)
      · rintro (h | h | h)
        · exact .inr (.inl h)
        · exact .inl h
        · exact .inr (.inr h)
  · rw [partD_take d p.1 i hi]
    rcases List.mem_append.1 hp with hp | hp
    · rw [if_neg (fun e => less_ne (h1 p hp) e.symm), List.append_nil]
      exact h.part p (List.mem_append_left _ hp)
    · rcases List.mem_cons.1 hp with rfl | hp
      · rw [if_pos rfl]
        have : partD (d.take i) d[i].row.key = [] := List.filter_eq_nil_iff.2 fun x hx e => hno ((keysM_mem _ _).2 ⟨x, hx, of_decide_eq_true e⟩)
        rw [this]; rfl
      · rw [if_neg (less_ne (h2 p hp)), List.append_nil]
        exact h.part p (List.mem_append_right _ hp)
theorem cut3 {X Y : List V} {a D : V} {n : Nat} (h : X.length = n) : (X ++ a :: D :: Y).drop (n + 1) = D :: Y := by
  rw [← List.drop_drop, List.drop_left' h]; rfl
theorem cut4 {X Y : List V} {a D : V} {n : Nat} (h : X.length = n) : (X ++ a :: D :: Y).take (n + 1) = X ++ [a] := by
  rw [show X ++ a :: D :: Y = (X ++ [a]) ++ D :: Y by simp, List.take_left' (by simp [h])]
theorem cut5 {X Y : List V} {a D : V} {n : Nat} (h : X.length = n) : (X ++ a :: D :: Y).drop (n + 2) = Y := by
  rw [← List.drop_drop, List.drop_left' h]; rfl
theorem cellsG_mid (L1 L2 : List GI) (p : GI) (rest : List V) : ((L1 ++ p :: L2).map cGI).flatten ++ rest = (L1.map cGI).flatten ++ vstr p.1 :: .list (some p.2.1) 10 (p.2.2.map cDlt) :: ((L2.map cGI).flatten ++ rest) := by simp

set_option linter.defProp false in
def tbAGm0 := (And.intro (And.intro (And.intro (And.intro (And.intro (And.intro Ty.sz3 (And.intro Ty.by3 Ty.ag3)) (And.intro (And.intro Ty.zr3 Ty.un3) (And.intro Ty.sz4 Ty.by4))) (And.intro (And.intro (And.intro Ty.ag4 Ty.zr4) (And.intro Ty.un4 Ty.sz9)) (And.intro (And.intro Ty.by9 Ty.ag9) (And.intro Ty.zr9 Ty.un9)))) (And.intro (And.intro (And.intro Ty.sz22 (And.intro Ty.by22 Ty.ag22)) (And.intro (And.intro Ty.zr22 Ty.un22) (And.intro Ty.sz24 Ty.by24))) (And.intro (And.intro (And.intro Ty.ag24 Ty.zr24) (And.intro Ty.fl24_0 Ty.pl24_0)) (And.intro (And.intro Ty.fl24_1 Ty.pl24_1) (And.intro Ty.sz41 Ty.by41))))) (And.intro (And.intro (And.intro (And.intro Ty.ag41 (And.intro Ty.zr41 Ty.un41)) (And.intro (And.intro Ty.sz53 Ty.by53) (And.intro Ty.ag53 Ty.zr53))) (And.intro (And.intro (And.intro Ty.fl53_0 Ty.pl53_0) (And.intro Ty.fl53_1 Ty.pl53_1)) (And.intro (And.intro Ty.sz54 Ty.by54) (And.intro Ty.ag54 Ty.zr54)))) (And.intro (And.intro (And.intro Ty.un54 (And.intro Ty.sz56 Ty.by56)) (And.intro (And.intro Ty.ag56 Ty.zr56) (And.intro Ty.fl56_0 Ty.pl56_0))) (And.intro (And.intro (And.intro Ty.fl56_1 Ty.pl56_1) (And.intro Ty.fl56_2 Ty.pl56_2)) (And.intro (And.intro Ty.fl56_3 Ty.pl56_3) (And.intro Ty.fl56_4 Ty.pl56_4)))))) (And.intro (And.intro (And.intro (And.intro (And.intro Ty.fl56_5 (And.intro Ty.pl56_5 Ty.fl56_6)) (And.intro (And.intro Ty.pl56_6 Ty.sz61) (And.intro Ty.by61 Ty.ag61))) (And.intro (And.intro (And.intro Ty.zr61 Ty.fl61_0) (And.intro Ty.pl61_0 Ty.fl61_1)) (And.intro (And.intro Ty.pl61_1 Ty.fl61_2) (And.intro Ty.pl61_2 Ty.sz65)))) (And.intro (And.intro (And.intro Ty.by65 (And.intro Ty.ag65 Ty.zr65)) (And.intro (And.intro Ty.fl65_0 Ty.pl65_0) (And.intro Ty.fl65_1 Ty.pl65_1))) (And.intro (And.intro (And.intro Ty.sz68 Ty.by68) (And.intro Ty.ag68 Ty.zr68)) (And.intro (And.intro Ty.un68 Ty.sz73) (And.intro Ty.by73 Ty.ag73))))) (And.intro (And.intro (And.intro (And.intro Ty.zr73 (And.intro Ty.sz75 Ty.by75)) (And.intro (And.intro Ty.ag75 Ty.zr75) (And.intro Ty.fl75_0 Ty.pl75_0))) (And.intro (And.intro (And.intro Ty.fl75_1 Ty.pl75_1) (And.intro Ty.sz86 Ty.by86)) (And.intro (And.intro Ty.ag86 Ty.zr86) (And.intro Ty.un86 Ty.sz109)))) (And.intro (And.intro (And.intro Ty.by109 (And.intro Ty.ag109 Ty.zr109)) (And.intro (And.intro Ty.fl109_0 Ty.pl109_0) (And.intro Ty.fl109_1 Ty.pl109_1))) (And.intro (And.intro (And.intro Ty.fl109_2 Ty.pl109_2) (And.intro Ty.eq53 Ty.eq109)) (And.intro (And.intro Ty.cb36 Ty.cb53) (And.intro Ty.cb56 Ty.cb58)))))))
theorem ofP_ok (s : Int) (d : List Dlt) (hfit : fitDs d) : OkP Try.prog 35 [vint s, vDlts d] (vArr (ofM s d)) := by
  have hd := hfit.1
  unfold big at hd
  refine Ok.of_exM [(6, 4)] Ty.mixed Try.func35 rfl (by simp [Try.ntmps35]) (by kernel_rfl) fun F w0 I0 => ?_
  simp only [↓rA, rB, Int.reduceLE, Int.reduceLT, Int.reduceToNat, Nat.reduceAdd, Nat.reduceEqDiff, Nat.reduceLT, Nat.reduceLeDiff, Nat.reduceMul, Nat.reduceSub, reduceCtorEq, tbAGm0, Try.results35]
  refine fun b4 h4 => ?_; replace h4 := newb h4; try simp only [Nb] at h4
  simp only [↓rA, rB, Int.reduceLE, Int.reduceLT, Int.reduceToNat, Nat.reduceAdd, Nat.reduceEqDiff, Nat.reduceLT, Nat.reduceLeDiff, Nat.reduceMul, Nat.reduceSub, reduceCtorEq, tbAGm0, Try.results35]
  refine OkF_withN [] _ (List.Perm.refl _) groupsNil_ok ?_
  rintro v bs rs ⟨rfl, bi, rfl, rfl⟩ hnd
  simp only [List.map_cons, List.map_nil, List.nodup_cons, List.mem_cons, List.not_mem_nil, or_false, not_or, List.cons_append, List.nil_append] at hnd
  have nb4 : bi ≠ b4 := hnd.1
  simp only [↓rA, rB, Int.reduceLE, Int.reduceLT, Int.reduceToNat, Nat.reduceAdd, Nat.reduceEqDiff, Nat.reduceLT, Nat.reduceLeDiff, Nat.reduceMul, Nat.reduceSub, reduceCtorEq, tbAGm0, Try.results35, List.length_map, nb4, Ne.symm nb4]
  refine EX_forP Ty.mixed (by kernel_rfl) d.length (fun i S => ∃ l : List GI, OfI d i l ∧ S.rows = l.map rowG ∧ S.σ 0 = vint s ∧ S.σ 4 = ptr b4 ∧ S.σ 5 = ptr bi ∧ S.σ 13 = vDlts d ∧ S.σ 14 = vint d.length ∧ S.σ 15 = vint i ∧ ((l = [] ∧ S.boxes = [(bi, .c [nilS, keyFn]), (b4, .c [vint 0, nilS])]) ∨ ∃ (ba c : Nat) (rest : List V), l.length ≤ c ∧ rest.length = (c - l.length) * 2 ∧ ba ≠ bi ∧ ba ≠ b4 ∧ S.boxes = [(bi, .c [.lit (.slice (some ⟨ba, 0, none⟩) l.length c), keyFn]), (ba, .c ((l.map cGI).flatten ++ rest)), (b4, .c [vint 0, nilS])])) ⟨_, _, _, _, List.Sublist.refl _, List.Sublist.refl _, List.Perm.refl _, List.Perm.refl _, [], OfI.nil d, ?_⟩ (fun i S hi ⟨l, hof, gr, g0, g4, g5, g13, g14, g15, hbx⟩ => ?_) (fun S ⟨l, hof, gr, g0, g4, g5, g13, g14, g15, hbx⟩ => ?_)
  · simp only [↓rA, rB, Int.reduceLE, Int.reduceLT, Int.reduceToNat, Nat.reduceAdd, Nat.reduceEqDiff, Nat.reduceLT, Nat.reduceLeDiff, Nat.reduceMul, Nat.reduceSub, reduceCtorEq, tbAGm0, Try.results35]
  · have hll := hof.len
    rcases hbx with ⟨rfl, gb⟩ | ⟨ba, c, rest, hc0, hr0, q1, q2, gb⟩
    · simp only [↓rA, rB, Int.reduceLE, Int.reduceLT, Int.reduceToNat, Nat.reduceAdd, Nat.reduceEqDiff, Nat.reduceLT, Nat.reduceLeDiff, Nat.reduceMul, Nat.reduceSub, reduceCtorEq, tbAGm0, Try.results35, gr, gb, g0, g4, g5, g13, g14, g15, Int.ofNat_lt, hi, List.length_map, getD_map]
      refine fun b7 h7 => ?_; replace h7 := newb h7; try simp only [Nb] at h7
      simp only [↓rA, rB, Int.reduceLE, Int.reduceLT, Int.reduceToNat, Nat.reduceAdd, Nat.reduceEqDiff, Nat.reduceLT, Nat.reduceLeDiff, Nat.reduceMul, Nat.reduceSub, reduceCtorEq, tbAGm0, Try.results35, gr, gb, g0, g4, g5, g13, g14, g15, h7]
      refine OkF_withN [_] [_, _] (List.Perm.swap _ _ _) (atNil_ok d[i].row.key bi) ?_
      rintro v bs rs ⟨rfl, b, c, L1, L2, D, rest, rfl, rfl, hc, hr, hbbi, hcase⟩ hnd2
      simp only [List.map_cons, List.map_nil, List.nodup_cons, List.mem_cons, List.not_mem_nil, or_false, not_or, List.cons_append, List.nil_append] at hnd2
      have m1 : b ≠ bi := hbbi
      have m2 : b ≠ b7 := hnd2.2.1.1
      have m3 : b ≠ b4 := hnd2.2.1.2
      have m4 : bi ≠ b7 := hnd2.1.2.1
      have hX : ((L1.map cGI).flatten).length = L1.length * 2 := cellsG_len L1
      have e1 := fun D' => cut3 (X := (L1.map cGI).flatten) (Y := (L2.map cGI).flatten ++ rest) (a := vstr d[i].row.key) (D := D') hX
      have e2 := fun D' => cut4 (X := (L1.map cGI).flatten) (Y := (L2.map cGI).flatten ++ rest) (a := vstr d[i].row.key) (D := D') hX
      have e3 := fun D' => cut5 (X := (L1.map cGI).flatten) (Y := (L2.map cGI).flatten ++ rest) (a := vstr d[i].row.key) (D := D') hX
      rcases hcase with ⟨y, ds, rfl, hl⟩ | ⟨rfl, hl, hlo, hhi⟩
      · simp at hl
      · have hof' := fun y' => OfI.fresh (y' := y') hi (hl ▸ hof) hlo hhi
        simp only [↓rA, rB, Int.reduceLE, Int.reduceLT, Int.reduceToNat, Nat.reduceAdd, Nat.reduceEqDiff, Nat.reduceLT, Nat.reduceLeDiff, Nat.reduceMul, Nat.reduceSub, reduceCtorEq, tbAGm0, Try.results35, gr, gb, g0, g4, g5, g13, g14, g15, h7, m1, m2, m3, m4, Ne.symm m1, Ne.symm m2, Ne.symm m3, Ne.symm m4, e1, e2, e3]
        refine fun y1 y' => ⟨by rw [List.length_append, hX]; simp only [List.length_cons]; omega, ?_⟩
        refine ⟨[_, _, _], ⟨y', 10, 61⟩ :: (L1.map rowG ++ L2.map rowG), _, (L1 ++ (d[i].row.key, y', [d[i]]) :: L2).map rowG, List.Sublist.cons_cons _ (List.Sublist.cons_cons _ (List.Sublist.cons _ (List.Sublist.cons_cons _ (List.nil_sublist _)))), ?_, List.Perm.refl _, ?_, _, hof' y', ?_⟩
        · have hl' := congrArg (List.map rowG) hl
          rw [List.map_append] at hl'
          rw [← hl']
          exact List.Sublist.cons_cons _ (List.Sublist.cons _ (List.Sublist.refl _))
        · rw [List.map_append, List.map_cons]
          exact List.perm_middle.symm
        simp only [↓rA, rB, Int.reduceLE, Int.reduceLT, Int.reduceToNat, Nat.reduceAdd, Nat.reduceEqDiff, Nat.reduceLT, Nat.reduceLeDiff, Nat.reduceMul, Nat.reduceSub, reduceCtorEq, tbAGm0, Try.results35, gr, gb, g0, g4, g5, g13, g14, g15, h7, m1, m2, m3, m4, Ne.symm m1, Ne.symm m2, Ne.symm m3, Ne.symm m4, wrap_succ hi (Nat.le_trans hd (by decide))]
        have hn' : (L1 ++ (d[i].row.key, y', [d[i]]) :: L2).length = L1.length + 1 + L2.length := by simp only [List.length_append, List.length_cons]; omega
        refine .inr ⟨b, c, rest, by rw [hn']; exact hc, by rw [hn']; exact hr, m1, m3, ?_⟩
        rw [hn', cellsG_mid]
        simp
    · simp only [↓rA, rB, Int.reduceLE, Int.reduceLT, Int.reduceToNat, Nat.reduceAdd, Nat.reduceEqDiff, Nat.reduceLT, Nat.reduceLeDiff, Nat.reduceMul, Nat.reduceSub, reduceCtorEq, tbAGm0, Try.results35, gr, gb, g0, g4, g5, g13, g14, g15, Int.ofNat_lt, hi, List.length_map, getD_map]
      refine fun b7 h7 => ?_; replace h7 := newb h7; try simp only [Nb] at h7
      simp only [↓rA, rB, Int.reduceLE, Int.reduceLT, Int.reduceToNat, Nat.reduceAdd, Nat.reduceEqDiff, Nat.reduceLT, Nat.reduceLeDiff, Nat.reduceMul, Nat.reduceSub, reduceCtorEq, tbAGm0, Try.results35, gr, gb, g0, g4, g5, g13, g14, g15, h7]
      refine OkF_withN [_, _] [_, _] ((List.perm_append_comm (l₁ := [_]) (l₂ := [_, _])).append_right [_]) (atBox_ok l d[i].row.key rest ba c bi (by unfold big; omega) hof.sorted q1 hc0 hr0) ?_
      rintro v bs rs ⟨rfl, b, c, L1, L2, D, rest, rfl, rfl, hc, hr, hbbi, hcase⟩ hnd2
      simp only [List.map_cons, List.map_nil, List.nodup_cons, List.mem_cons, List.not_mem_nil, or_false, not_or, List.cons_append, List.nil_append] at hnd2
      have m1 : b ≠ bi := hbbi
      have m2 : b ≠ b7 := hnd2.2.1.1
      have m3 : b ≠ b4 := hnd2.2.1.2
      have m4 : bi ≠ b7 := hnd2.1.2.1
      have hX : ((L1.map cGI).flatten).length = L1.length * 2 := cellsG_len L1
      have e1 := fun D' => cut3 (X := (L1.map cGI).flatten) (Y := (L2.map cGI).flatten ++ rest) (a := vstr d[i].row.key) (D := D') hX
      have e2 := fun D' => cut4 (X := (L1.map cGI).flatten) (Y := (L2.map cGI).flatten ++ rest) (a := vstr d[i].row.key) (D := D') hX
      have e3 := fun D' => cut5 (X := (L1.map cGI).flatten) (Y := (L2.map cGI).flatten ++ rest) (a := vstr d[i].row.key) (D := D') hX
      rcases hcase with ⟨y, ds, rfl, hl⟩ | ⟨rfl, hl, hlo, hhi⟩
      · have hof' := fun y' => OfI.found (y' := y') hi (hl ▸ hof)
        have hdl : ds.length ≤ i := hof.dlen (p := (d[i].row.key, y, ds)) (by rw [hl]; simp)
        rw [hl, List.map_append, List.map_cons] at gr
        simp only [↓rA, rB, Int.reduceLE, Int.reduceLT, Int.reduceToNat, Nat.reduceAdd, Nat.reduceEqDiff, Nat.reduceLT, Nat.reduceLeDiff, Nat.reduceMul, Nat.reduceSub, reduceCtorEq, tbAGm0, Try.results35, gr, gb, g0, g4, g5, g13, g14, g15, h7, m1, m2, m3, m4, Ne.symm m1, Ne.symm m2, Ne.symm m3, Ne.symm m4, e1, e2, e3]
        refine fun y1 => takeRF_at (l1 := ⟨y1, 10, 61⟩ :: L1.map rowG) ?_
        simp only [↓rA, rB, Int.reduceLE, Int.reduceLT, Int.reduceToNat, Nat.reduceAdd, Nat.reduceEqDiff, Nat.reduceLT, Nat.reduceLeDiff, Nat.reduceMul, Nat.reduceSub, reduceCtorEq, tbAGm0, Try.results35, gr, gb, g0, g4, g5, g13, g14, g15, h7, m1, m2, m3, m4, Ne.symm m1, Ne.symm m2, Ne.symm m3, Ne.symm m4, e1, e2, e3, List.length_map]
        refine ⟨by omega, fun y' => ⟨by rw [List.length_append, hX]; simp only [List.length_cons]; omega, ?_⟩⟩
        refine ⟨[_, _, _], ⟨y', 10, 61⟩ :: (L1.map rowG ++ L2.map rowG), _, (L1 ++ (d[i].row.key, y', ds ++ [d[i]]) :: L2).map rowG, List.Sublist.cons_cons _ (List.Sublist.cons_cons _ (List.Sublist.cons _ (List.Sublist.cons_cons _ (List.nil_sublist _)))), ?_, List.Perm.refl _, ?_, _, hof' y', ?_⟩
        · exact List.Sublist.cons_cons _ (List.Sublist.cons _ (List.Sublist.refl _))
        · rw [List.map_append, List.map_cons]
          exact List.perm_middle.symm
        simp only [↓rA, rB, Int.reduceLE, Int.reduceLT, Int.reduceToNat, Nat.reduceAdd, Nat.reduceEqDiff, Nat.reduceLT, Nat.reduceLeDiff, Nat.reduceMul, Nat.reduceSub, reduceCtorEq, tbAGm0, Try.results35, gr, gb, g0, g4, g5, g13, g14, g15, h7, m1, m2, m3, m4, Ne.symm m1, Ne.symm m2, Ne.symm m3, Ne.symm m4, wrap_succ hi (Nat.le_trans hd (by decide))]
        have hn' : (L1 ++ (d[i].row.key, y', ds ++ [d[i]]) :: L2).length = L1.length + 1 + L2.length := by simp only [List.length_append, List.length_cons]; omega
        refine .inr ⟨b, c, rest, by rw [hn']; exact hc, by rw [hn']; exact hr, m1, m3, ?_⟩
        rw [hn', cellsG_mid]
        simp
      · have hof' := fun y' => OfI.fresh (y' := y') hi (hl ▸ hof) hlo hhi
        simp only [↓rA, rB, Int.reduceLE, Int.reduceLT, Int.reduceToNat, Nat.reduceAdd, Nat.reduceEqDiff, Nat.reduceLT, Nat.reduceLeDiff, Nat.reduceMul, Nat.reduceSub, reduceCtorEq, tbAGm0, Try.results35, gr, gb, g0, g4, g5, g13, g14, g15, h7, m1, m2, m3, m4, Ne.symm m1, Ne.symm m2, Ne.symm m3, Ne.symm m4, e1, e2, e3]
        refine fun y1 y' => ⟨by rw [List.length_append, hX]; simp only [List.length_cons]; omega, ?_⟩
        refine ⟨[_, _, _], ⟨y', 10, 61⟩ :: (L1.map rowG ++ L2.map rowG), _, (L1 ++ (d[i].row.key, y', [d[i]]) :: L2).map rowG, List.Sublist.cons_cons _ (List.Sublist.cons_cons _ (List.Sublist.cons _ (List.Sublist.cons_cons _ (List.nil_sublist _)))), ?_, List.Perm.refl _, ?_, _, hof' y', ?_⟩
        · rw [← List.map_append, ← hl, ← gr]
          exact List.Sublist.cons_cons _ (List.Sublist.cons _ (List.Sublist.refl _))
        · rw [List.map_append, List.map_cons]
          exact List.perm_middle.symm
        simp only [↓rA, rB, Int.reduceLE, Int.reduceLT, Int.reduceToNat, Nat.reduceAdd, Nat.reduceEqDiff, Nat.reduceLT, Nat.reduceLeDiff, Nat.reduceMul, Nat.reduceSub, reduceCtorEq, tbAGm0, Try.results35, gr, gb, g0, g4, g5, g13, g14, g15, h7, m1, m2, m3, m4, Ne.symm m1, Ne.symm m2, Ne.symm m3, Ne.symm m4, wrap_succ hi (Nat.le_trans hd (by decide))]
        have hn' : (L1 ++ (d[i].row.key, y', [d[i]]) :: L2).length = L1.length + 1 + L2.length := by simp only [List.length_append, List.length_cons]; omega
        refine .inr ⟨b, c, rest, by rw [hn']; exact hc, by rw [hn']; exact hr, m1, m3, ?_⟩
        rw [hn', cellsG_mid]
        simp
  · have hkeys : l.map (·.1) = keysM d := by have := hof.keys; rwa [List.take_of_length_le (Nat.le_refl _)] at this
    have hll := hof.len
    rcases hbx with ⟨rfl, gb⟩ | ⟨ba, c, rest, hc0, hr0, q1, q2, gb⟩
    · have hof0 : ofM s d = ⟨s, []⟩ := by
        unfold ofM grpsM
        rw [← hkeys]; rfl
      simp only [↓rA, rB, Int.reduceLE, Int.reduceLT, Int.reduceToNat, Nat.reduceAdd, Nat.reduceEqDiff, Nat.reduceLT, Nat.reduceLeDiff, Nat.reduceMul, Nat.reduceSub, reduceCtorEq, tbAGm0, Try.results35, gr, gb, g0, g4, g5, g13, g14, g15, Int.ofNat_lt, Nat.lt_irrefl, List.length_map]
      refine fun b9 h9 => ?_; replace h9 := newb h9; try simp only [Nb] at h9
      simp only [↓rA, rB, Int.reduceLE, Int.reduceLT, Int.reduceToNat, Nat.reduceAdd, Nat.reduceEqDiff, Nat.reduceLT, Nat.reduceLeDiff, Nat.reduceMul, Nat.reduceSub, reduceCtorEq, tbAGm0, Try.results35, gr, gb, g0, g4, g5, g13, g14, g15, h9, nb4, Ne.symm nb4]
      refine EX_for Ty.mixed (by kernel_rfl) 0 (fun i S => S.boxes = [(b9, .c [vint s, nilS]), (bi, .c [nilS, keyFn]), (b4, .c [vint 0, nilS])] ∧ S.rows = [] ∧ S.σ 4 = ptr b4 ∧ S.σ 9 = ptr b9 ∧ S.σ 45 = vint 0 ∧ S.σ 46 = vint 0) ⟨0, ?_⟩ (fun i S hi _ => absurd hi (Nat.not_lt_zero _)) (fun S ⟨gb, gr, g4, g9, g45, g46⟩ => ?_)
      · simp only [↓rA, rB, Int.reduceLE, Int.reduceLT, Int.reduceToNat, Nat.reduceAdd, Nat.reduceEqDiff, Nat.reduceLT, Nat.reduceLeDiff, Nat.reduceMul, Nat.reduceSub, reduceCtorEq, tbAGm0, Try.results35, gr, gb, g0, g4, g5, h9, nb4, Ne.symm nb4]
        try exact ⟨trivial, trivial⟩
      · simp only [↓rA, rB, Int.reduceLE, Int.reduceLT, Int.reduceToNat, Nat.reduceAdd, Nat.reduceEqDiff, Nat.reduceLT, Nat.reduceLeDiff, Nat.reduceMul, Nat.reduceSub, reduceCtorEq, tbAGm0, Try.results35, gb, gr, g4, g9, g45, g46, h9, Int.lt_irrefl, nb4, Ne.symm nb4]
        rw [hof0]
        exact ret_le (Le.arr0 _)
    · simp only [↓rA, rB, Int.reduceLE, Int.reduceLT, Int.reduceToNat, Nat.reduceAdd, Nat.reduceEqDiff, Nat.reduceLT, Nat.reduceLeDiff, Nat.reduceMul, Nat.reduceSub, reduceCtorEq, tbAGm0, Try.results35, gr, gb, g0, g4, g5, g13, g14, g15, Int.ofNat_lt, Nat.lt_irrefl, List.length_map]
      refine fun b9 h9 => ?_; replace h9 := newb h9; try simp only [Nb] at h9
      simp only [↓rA, rB, Int.reduceLE, Int.reduceLT, Int.reduceToNat, Nat.reduceAdd, Nat.reduceEqDiff, Nat.reduceLT, Nat.reduceLeDiff, Nat.reduceMul, Nat.reduceSub, reduceCtorEq, tbAGm0, Try.results35, gr, gb, g0, g4, g5, g13, g14, g15, h9, nb4, Ne.symm nb4, q1, q2, Ne.symm q1, Ne.symm q2]
      refine EX_nilB (cs' := [vint s, .list (some nilv) 2 []]) (k := 2) (e := 65) [] [_, _, _] (by simp only [↓rA, rB, Int.reduceLE, Int.reduceLT, Int.reduceToNat, Nat.reduceAdd, Nat.reduceEqDiff, Nat.reduceLT, Nat.reduceLeDiff, Nat.reduceMul, Nat.reduceSub, reduceCtorEq, tbAGm0, Try.results35, gr, gb, g0, g4, g5, h9, nb4, Ne.symm nb4, q1, q2, Ne.symm q1, Ne.symm q2]; try rfl) (.cons (Le.refl _) (.cons (Le.nilOwn 2) .nil)) (by decide) ?_
      refine EX_forS Ty.mixed (by kernel_rfl) l.length (fun j S => ∃ y9, S.boxes = [(b9, .c [vint s, .list (some y9) 2 ((grpsK d ((l.map (·.1)).take j)).map cGrp)]), (bi, .c [.lit (.slice (some ⟨ba, 0, none⟩) l.length c), keyFn]), (ba, .c ((l.map cGI).flatten ++ rest)), (b4, .c [vint 0, nilS])] ∧ S.rows = [⟨y9, 2, 65⟩] ∧ S.σ 4 = ptr b4 ∧ S.σ 9 = ptr b9 ∧ S.σ 44 = .lit (.slice (some ⟨ba, 0, none⟩) l.length c) ∧ S.σ 45 = vint l.length ∧ S.σ 46 = vint j) ⟨_, [_], List.Sublist.refl _, List.Sublist.cons_cons _ (List.nil_sublist _), nilv, ?_⟩ (fun j S hj ⟨y9, gb, gr, g4, g9, g44, g45, g46⟩ => ?_) (fun S ⟨y9, gb, gr, g4, g9, g44, g45, g46⟩ => ?_)
      · simp only [↓rA, rB, Int.reduceLE, Int.reduceLT, Int.reduceToNat, Nat.reduceAdd, Nat.reduceEqDiff, Nat.reduceLT, Nat.reduceLeDiff, Nat.reduceMul, Nat.reduceSub, reduceCtorEq, tbAGm0, Try.results35, gr, gb, g0, g4, g5, h9, nb4, Ne.symm nb4, q1, q2, Ne.symm q1, Ne.symm q2]
        try simp [grpsK]
      · have hjK : j < (l.map (·.1)).length := by rw [List.length_map]; exact hj
        have htk := grpsK_take d (l.map (·.1)) j hjK
        have hlen := grpsK_len d (l.map (·.1)) j
        rw [List.getElem_map] at htk
        have hpart : l[j].2.2 = partD d l[j].1 := by have := hof.part l[j] (List.getElem_mem hj); rwa [List.take_of_length_le (Nat.le_refl _)] at this
        have hpfit : fitDs l[j].2.2 := hpart ▸ hfit.part _
        simp only [↓rA, rB, Int.reduceLE, Int.reduceLT, Int.reduceToNat, Nat.reduceAdd, Nat.reduceEqDiff, Nat.reduceLT, Nat.reduceLeDiff, Nat.reduceMul, Nat.reduceSub, reduceCtorEq, tbAGm0, Try.results35, gb, gr, g4, g9, g44, g45, g46, h9, nb4, Ne.symm nb4, q1, q2, Ne.symm q1, Ne.symm q2, Int.ofNat_lt, hj]
        have hdl : 2 ≤ (((l.map cGI).flatten ++ rest).drop (j * 2)).length := by rw [List.length_drop, List.length_append, cellsG_len]; omega
        have hdl' : l.length ≤ d.length := hll
        refine ⟨hdl, ?_⟩
        rw [cellG_at l rest j hj]
        refine fun b11 h11 => ?_; replace h11 := newb h11; try simp only [Nb] at h11
        simp only [↓rA, rB, Int.reduceLE, Int.reduceLT, Int.reduceToNat, Nat.reduceAdd, Nat.reduceEqDiff, Nat.reduceLT, Nat.reduceLeDiff, Nat.reduceMul, Nat.reduceSub, reduceCtorEq, tbAGm0, Try.results35, gb, gr, g4, g9, g44, g45, g46, h9, h11, nb4, Ne.symm nb4, q1, q2, Ne.symm q1, Ne.symm q2]
        refine OkF_le (.cons (Le.list _ _ _) .nil) _ (cons_ok l[j].2.2 hpfit) ?_
        have hgo : grpOf d l[j].1 = ⟨l[j].1, consM l[j].2.2⟩ := by rw [hpart]; rfl
        rw [hgo] at htk
        by_cases hx : full ⟨l[j].1, consM l[j].2.2⟩ = true
        · have hx' : (0 : Int) < ((consM l[j].2.2).length : Int) := by
            have h0 : 0 < (consM l[j].2.2).length := of_decide_eq_true hx
            omega
          simp only [↓rA, rB, Int.reduceLE, Int.reduceLT, Int.reduceToNat, Nat.reduceAdd, Nat.reduceEqDiff, Nat.reduceLT, Nat.reduceLeDiff, Nat.reduceMul, Nat.reduceSub, reduceCtorEq, tbAGm0, Try.results35, gb, gr, g4, g9, g44, g45, g46, h9, h11, nb4, Ne.symm nb4, q1, q2, Ne.symm q1, Ne.symm q2, hx', List.length_map]
          refine fun y10 => takeRF_2 ?_
          simp only [↓rA, rB, Int.reduceLE, Int.reduceLT, Int.reduceToNat, Nat.reduceAdd, Nat.reduceEqDiff, Nat.reduceLT, Nat.reduceLeDiff, Nat.reduceMul, Nat.reduceSub, reduceCtorEq, tbAGm0, Try.results35, gb, gr, g4, g9, g44, g45, g46, h9, h11, nb4, Ne.symm nb4, q1, q2, Ne.symm q1, Ne.symm q2, wrap_succ hj (Nat.le_trans hdl' (Nat.le_trans hd (by decide))), List.length_map]
          refine ⟨(by first | omega | (simp; omega)), fun y12 => ⟨[_, _, _, _], [_], List.Sublist.cons _ (List.Sublist.refl _), List.Sublist.cons_cons _ (List.nil_sublist _), y12, ?_⟩⟩
          simp only [↓rA, rB, Int.reduceLE, Int.reduceLT, Int.reduceToNat, Nat.reduceAdd, Nat.reduceEqDiff, Nat.reduceLT, Nat.reduceLeDiff, Nat.reduceMul, Nat.reduceSub, reduceCtorEq, tbAGm0, Try.results35, gb, gr, g4, g9, g44, g45, g46, h9, h11, nb4, Ne.symm nb4, q1, q2, Ne.symm q1, Ne.symm q2, wrap_succ hj (Nat.le_trans hdl' (Nat.le_trans hd (by decide))), List.length_map]
          rw [htk, if_pos hx, List.map_append]
          rfl
        · have hx' : ¬ (0 : Int) < ((consM l[j].2.2).length : Int) := by
            have h0 : ¬ 0 < (consM l[j].2.2).length := fun h => hx (decide_eq_true h)
            omega
          simp only [↓rA, rB, Int.reduceLE, Int.reduceLT, Int.reduceToNat, Nat.reduceAdd, Nat.reduceEqDiff, Nat.reduceLT, Nat.reduceLeDiff, Nat.reduceMul, Nat.reduceSub, reduceCtorEq, tbAGm0, Try.results35, gb, gr, g4, g9, g44, g45, g46, h9, h11, nb4, Ne.symm nb4, q1, q2, Ne.symm q1, Ne.symm q2, hx', wrap_succ hj (Nat.le_trans hdl' (Nat.le_trans hd (by decide))), List.length_map]
          refine ⟨[_, _, _, _], _, List.Sublist.cons _ (List.Sublist.refl _), List.Sublist.refl _, y9, ?_⟩
          simp only [↓rA, rB, Int.reduceLE, Int.reduceLT, Int.reduceToNat, Nat.reduceAdd, Nat.reduceEqDiff, Nat.reduceLT, Nat.reduceLeDiff, Nat.reduceMul, Nat.reduceSub, reduceCtorEq, tbAGm0, Try.results35, gb, gr, g4, g9, g44, g45, g46, h9, h11, nb4, Ne.symm nb4, q1, q2, Ne.symm q1, Ne.symm q2, wrap_succ hj (Nat.le_trans hdl' (Nat.le_trans hd (by decide))), List.length_map]
          rw [htk, if_neg hx, List.append_nil]
      · simp only [↓rA, rB, Int.reduceLE, Int.reduceLT, Int.reduceToNat, Nat.reduceAdd, Nat.reduceEqDiff, Nat.reduceLT, Nat.reduceLeDiff, Nat.reduceMul, Nat.reduceSub, reduceCtorEq, tbAGm0, Try.results35, gb, gr, g4, g9, g44, g45, g46, h9, nb4, Ne.symm nb4, q1, q2, Ne.symm q1, Ne.symm q2, Int.ofNat_lt, Nat.lt_irrefl]
        rw [List.take_of_length_le (by rw [List.length_map]; exact Nat.le_refl _), hkeys]
        exact ret_le (Le.arr _ _ _)
end Go.Proofs.Ytopfanlkbepemaa

/- Arrangements: contracts of the program: Purge, Insert, Advance. -/
set_option linter.unusedSimpArgs false
set_option maxRecDepth 100000
namespace Go.Proofs.Ytopfanlkbepemaa
open Go.VL Go.Ar Go.Proofs.Ytopfanlkbepemaa

set_option linter.defProp false in
def tbAIc0 := (And.intro (And.intro (And.intro (And.intro (And.intro (And.intro Ty.sz3 (And.intro Ty.by3 Ty.ag3)) (And.intro Ty.zr3 (And.intro Ty.un3 Ty.sz9))) (And.intro (And.intro Ty.by9 (And.intro Ty.ag9 Ty.zr9)) (And.intro Ty.un9 (And.intro Ty.sz22 Ty.by22)))) (And.intro (And.intro (And.intro Ty.ag22 (And.intro Ty.zr22 Ty.un22)) (And.intro Ty.sz24 (And.intro Ty.by24 Ty.ag24))) (And.intro (And.intro Ty.zr24 (And.intro Ty.fl24_0 Ty.pl24_0)) (And.intro Ty.fl24_1 (And.intro Ty.pl24_1 Ty.sz41))))) (And.intro (And.intro (And.intro (And.intro Ty.by41 (And.intro Ty.ag41 Ty.zr41)) (And.intro Ty.un41 (And.intro Ty.sz47 Ty.by47))) (And.intro (And.intro Ty.ag47 (And.intro Ty.zr47 Ty.un47)) (And.intro Ty.sz53 (And.intro Ty.by53 Ty.ag53)))) (And.intro (And.intro (And.intro Ty.zr53 (And.intro Ty.fl53_0 Ty.pl53_0)) (And.intro Ty.fl53_1 (And.intro Ty.pl53_1 Ty.sz54))) (And.intro (And.intro Ty.by54 (And.intro Ty.ag54 Ty.zr54)) (And.intro Ty.un54 (And.intro Ty.sz56 Ty.by56)))))) (And.intro (And.intro (And.intro (And.intro (And.intro Ty.ag56 (And.intro Ty.zr56 Ty.fl56_0)) (And.intro Ty.pl56_0 (And.intro Ty.fl56_1 Ty.pl56_1))) (And.intro (And.intro Ty.fl56_2 (And.intro Ty.pl56_2 Ty.fl56_3)) (And.intro Ty.pl56_3 (And.intro Ty.fl56_4 Ty.pl56_4)))) (And.intro (And.intro (And.intro Ty.fl56_5 (And.intro Ty.pl56_5 Ty.fl56_6)) (And.intro Ty.pl56_6 (And.intro Ty.sz61 Ty.by61))) (And.intro (And.intro Ty.ag61 (And.intro Ty.zr61 Ty.fl61_0)) (And.intro Ty.pl61_0 (And.intro Ty.fl61_1 Ty.pl61_1))))) (And.intro (And.intro (And.intro (And.intro Ty.fl61_2 (And.intro Ty.pl61_2 Ty.sz65)) (And.intro Ty.by65 (And.intro Ty.ag65 Ty.zr65))) (And.intro (And.intro Ty.fl65_0 (And.intro Ty.pl65_0 Ty.fl65_1)) (And.intro Ty.pl65_1 (And.intro Ty.sz109 Ty.by109)))) (And.intro (And.intro (And.intro Ty.ag109 (And.intro Ty.zr109 Ty.fl109_0)) (And.intro Ty.pl109_0 (And.intro Ty.fl109_1 Ty.pl109_1))) (And.intro (And.intro Ty.fl109_2 (And.intro Ty.pl109_2 Ty.eq53)) (And.intro (And.intro Ty.eq109 Ty.cb34) (And.intro Ty.cb35 Ty.cb45)))))))
theorem purgeP_ok (a : Arr) (ids : List FID) (ha : fitA a) (hids : ids.length ≤ 9223372036854775807) : OkP Try.prog 22 [vArr a, vFIDs ids] (vArr (purA a ids)) := by
  refine Ok.of_ex Ty.mixed Try.func22 rfl (by simp [Try.ntmps22]) (by kernel_rfl) fun F w0 I0 => ?_
  simp only [↓rA, rB, Int.reduceLE, Int.reduceLT, Int.reduceToNat, Nat.reduceAdd, Nat.reduceEqDiff, Nat.reduceLT, Nat.reduceLeDiff, Nat.reduceMul, Nat.reduceSub, reduceCtorEq, tbAIc0, Try.results22]
  refine fun b2 h2 => ?_; replace h2 := newb h2; try simp only [Nb] at h2
  simp only [↓rA, rB, Int.reduceLE, Int.reduceLT, Int.reduceToNat, Nat.reduceAdd, Nat.reduceEqDiff, Nat.reduceLT, Nat.reduceLeDiff, Nat.reduceMul, Nat.reduceSub, reduceCtorEq, tbAIc0, Try.results22]
  refine fun b4 h4 => ?_; replace h4 := newb h4; try simp only [Nb] at h4
  simp only [↓rA, rB, Int.reduceLE, Int.reduceLT, Int.reduceToNat, Nat.reduceAdd, Nat.reduceEqDiff, Nat.reduceLT, Nat.reduceLeDiff, Nat.reduceMul, Nat.reduceSub, reduceCtorEq, tbAIc0, Try.results22, h2, h4]
  refine CallV_of _ (OkRow.list (every_row a ha.1 ha.2.1)).v ?_
  simp only [↓rA, rB, Int.reduceLE, Int.reduceLT, Int.reduceToNat, Nat.reduceAdd, Nat.reduceEqDiff, Nat.reduceLT, Nat.reduceLeDiff, Nat.reduceMul, Nat.reduceSub, reduceCtorEq, tbAIc0, Try.results22, h2, h4]
  refine CallV_of _ (purge_ok (allD a.groups) ids ha.2.1 hids).v ?_
  simp only [↓rA, rB, Int.reduceLE, Int.reduceLT, Int.reduceToNat, Nat.reduceAdd, Nat.reduceEqDiff, Nat.reduceLT, Nat.reduceLeDiff, Nat.reduceMul, Nat.reduceSub, reduceCtorEq, tbAIc0, Try.results22, h2, h4]
  refine CallV_of _ (ofP_ok a.since (purgeM (allD a.groups) ids) (ha.2.purge ids)).v ?_
  simp only [↓rA, rB, Int.reduceLE, Int.reduceLT, Int.reduceToNat, Nat.reduceAdd, Nat.reduceEqDiff, Nat.reduceLT, Nat.reduceLeDiff, Nat.reduceMul, Nat.reduceSub, reduceCtorEq, tbAIc0, Try.results22, h2, h4]
  exact ret_done rfl
set_option linter.defProp false in
def tbAIc1 := (And.intro (And.intro (And.intro (And.intro (And.intro (And.intro Ty.sz3 (And.intro Ty.by3 Ty.ag3)) (And.intro Ty.zr3 (And.intro Ty.un3 Ty.sz4))) (And.intro (And.intro Ty.by4 (And.intro Ty.ag4 Ty.zr4)) (And.intro (And.intro Ty.un4 Ty.sz9) (And.intro Ty.by9 Ty.ag9)))) (And.intro (And.intro (And.intro Ty.zr9 (And.intro Ty.un9 Ty.sz22)) (And.intro Ty.by22 (And.intro Ty.ag22 Ty.zr22))) (And.intro (And.intro Ty.un22 (And.intro Ty.sz24 Ty.by24)) (And.intro (And.intro Ty.ag24 Ty.zr24) (And.intro Ty.fl24_0 Ty.pl24_0))))) (And.intro (And.intro (And.intro (And.intro Ty.fl24_1 (And.intro Ty.pl24_1 Ty.sz29)) (And.intro Ty.by29 (And.intro Ty.ag29 Ty.zr29))) (And.intro (And.intro Ty.un29 (And.intro Ty.sz41 Ty.by41)) (And.intro (And.intro Ty.ag41 Ty.zr41) (And.intro Ty.un41 Ty.sz53)))) (And.intro (And.intro (And.intro Ty.by53 (And.intro Ty.ag53 Ty.zr53)) (And.intro (And.intro Ty.fl53_0 Ty.pl53_0) (And.intro Ty.fl53_1 Ty.pl53_1))) (And.intro (And.intro Ty.sz54 (And.intro Ty.by54 Ty.ag54)) (And.intro (And.intro Ty.zr54 Ty.un54) (And.intro Ty.sz56 Ty.by56)))))) (And.intro (And.intro (And.intro (And.intro (And.intro Ty.ag56 (And.intro Ty.zr56 Ty.fl56_0)) (And.intro Ty.pl56_0 (And.intro Ty.fl56_1 Ty.pl56_1))) (And.intro (And.intro Ty.fl56_2 (And.intro Ty.pl56_2 Ty.fl56_3)) (And.intro (And.intro Ty.pl56_3 Ty.fl56_4) (And.intro Ty.pl56_4 Ty.fl56_5)))) (And.intro (And.intro (And.intro Ty.pl56_5 (And.intro Ty.fl56_6 Ty.pl56_6)) (And.intro (And.intro Ty.sz61 Ty.by61) (And.intro Ty.ag61 Ty.zr61))) (And.intro (And.intro Ty.fl61_0 (And.intro Ty.pl61_0 Ty.fl61_1)) (And.intro (And.intro Ty.pl61_1 Ty.fl61_2) (And.intro Ty.pl61_2 Ty.sz65))))) (And.intro (And.intro (And.intro (And.intro Ty.by65 (And.intro Ty.ag65 Ty.zr65)) (And.intro Ty.fl65_0 (And.intro Ty.pl65_0 Ty.fl65_1))) (And.intro (And.intro Ty.pl65_1 (And.intro Ty.sz78 Ty.by78)) (And.intro (And.intro Ty.ag78 Ty.zr78) (And.intro Ty.sz109 Ty.by109)))) (And.intro (And.intro (And.intro Ty.ag109 (And.intro Ty.zr109 Ty.fl109_0)) (And.intro (And.intro Ty.pl109_0 Ty.fl109_1) (And.intro Ty.pl109_1 Ty.fl109_2))) (And.intro (And.intro Ty.pl109_2 (And.intro Ty.eq53 Ty.eq109)) (And.intro (And.intro Ty.cb34 Ty.cb35) (And.intro Ty.cb40 Ty.cb41)))))))
theorem insP_ok (a : Arr) (d : List Dlt) (ha : fitA a) (hd : fitDs (allD a.groups ++ d)) : OkP Try.prog 17 [vArr a, vDlts d] (vRes (insA a d)) := by
  have hdl : d.length ≤ 4194304 := by have := hd.1; unfold big at this; rw [List.length_append] at this; omega
  have hda : (allD a.groups).length ≤ 4194304 := ha.2.1
  have hdt : (allD a.groups).length + d.length ≤ 4194304 := by have := hd.1; unfold big at this; rw [List.length_append] at this; omega
  refine Ok.of_exM [(3, 2)] Ty.mixed Try.func17 rfl (by simp [Try.ntmps17]) (by kernel_rfl) fun F w0 I0 => ?_
  simp only [↓rA, rB, Int.reduceLE, Int.reduceLT, Int.reduceToNat, Nat.reduceAdd, Nat.reduceEqDiff, Nat.reduceLT, Nat.reduceLeDiff, Nat.reduceMul, Nat.reduceSub, reduceCtorEq, tbAIc1, Try.results17]
  refine fun b2 h2 => ?_; replace h2 := newb h2; try simp only [Nb] at h2
  simp only [↓rA, rB, Int.reduceLE, Int.reduceLT, Int.reduceToNat, Nat.reduceAdd, Nat.reduceEqDiff, Nat.reduceLT, Nat.reduceLeDiff, Nat.reduceMul, Nat.reduceSub, reduceCtorEq, tbAIc1, Try.results17]
  refine fun b4 h4 => ?_; replace h4 := newb h4; try simp only [Nb] at h4
  simp only [↓rA, rB, Int.reduceLE, Int.reduceLT, Int.reduceToNat, Nat.reduceAdd, Nat.reduceEqDiff, Nat.reduceLT, Nat.reduceLeDiff, Nat.reduceMul, Nat.reduceSub, reduceCtorEq, tbAIc1, Try.results17, h2, h4]
  refine OkF_with [_] [_] (List.Perm.swap _ _ _) (containsF_ok d a b2 (Nat.le_trans hdl (by decide))) ?_
  rintro v bs rs ⟨rfl, rfl, rfl⟩
  by_cases hlt : lateB a d = true
  · have hlt' : (d.any fun x => decide (x.tick < a.since)) = true := hlt
    simp only [↓rA, rB, Int.reduceLE, Int.reduceLT, Int.reduceToNat, Nat.reduceAdd, Nat.reduceEqDiff, Nat.reduceLT, Nat.reduceLeDiff, Nat.reduceMul, Nat.reduceSub, reduceCtorEq, tbAIc1, Try.results17, h2, h4, hlt']
    refine ret_le ?_
    unfold insA
    rw [if_pos hlt]
    exact Le.two (Le.arr0 _) (Le.refl _)
  · have hlt' : (d.any fun x => decide (x.tick < a.since)) = false := by simpa [lateB] using hlt
    simp only [↓rA, rB, Int.reduceLE, Int.reduceLT, Int.reduceToNat, Nat.reduceAdd, Nat.reduceEqDiff, Nat.reduceLT, Nat.reduceLeDiff, Nat.reduceMul, Nat.reduceSub, reduceCtorEq, tbAIc1, Try.results17, h2, h4, hlt']
    refine OkR_row (every_row a ha.1 ha.2.1) fun y => ?_
    simp only [↓rA, rB, Int.reduceLE, Int.reduceLT, Int.reduceToNat, Nat.reduceAdd, Nat.reduceEqDiff, Nat.reduceLT, Nat.reduceLeDiff, Nat.reduceMul, Nat.reduceSub, reduceCtorEq, tbAIc1, Try.results17, h2, h4, List.length_map]
    refine ⟨(by first | omega | (simp; omega)), fun y2 => ?_⟩
    refine OkR_of _ (Ok.le (.cons (Le.refl _) (.cons (by rw [← List.map_append]; exact Le.list _ _ _) .nil)) (ofP_ok a.since (allD a.groups ++ d) hd)) ?_
    simp only [↓rA, rB, Int.reduceLE, Int.reduceLT, Int.reduceToNat, Nat.reduceAdd, Nat.reduceEqDiff, Nat.reduceLT, Nat.reduceLeDiff, Nat.reduceMul, Nat.reduceSub, reduceCtorEq, tbAIc1, Try.results17, h2, h4]
    refine ret_le ?_
    unfold insA
    rw [if_neg hlt]
    exact Le.refl _

/-! ### Advance -/
def advI (s : Int) (d : List Dlt) (i : Nat) : List Dlt := advD s (d.take i) ++ d.drop i
theorem advI_zero (s : Int) (d : List Dlt) : advI s d 0 = d := by simp [advI, advD]
theorem advI_all (s : Int) (d : List Dlt) : advI s d d.length = advD s d := by unfold advI; rw [List.take_of_length_le (Nat.le_refl _), List.drop_of_length_le (Nat.le_refl _), List.append_nil]
theorem advD_len (s : Int) (d : List Dlt) : (advD s d).length = d.length := by simp [advD]
/-- Cells around the i-th difference. -/
theorem adv_cells (s : Int) (d : List Dlt) (i : Nat) (hi : i < d.length) (rest : List V) : ∃ A B : List V, A.length = i * 10 ∧ ((advI s d i).map cDlt).flatten ++ rest = A ++ (cDlt d[i] ++ B) ∧ ((advI s d (i + 1)).map cDlt).flatten ++ rest = A ++ (cDlt { d[i] with tick := max d[i].tick s } ++ B) := by
  refine ⟨((advD s (d.take i)).map cDlt).flatten, ((d.drop (i + 1)).map cDlt).flatten ++ rest, ?_, ?_, ?_⟩
  · rw [cellsD_len, advD_len, List.length_take]; omega
  · unfold advI
    rw [List.drop_eq_getElem_cons hi]
    simp only [List.map_append, List.map_cons, List.flatten_append, List.flatten_cons, List.append_assoc]
  · unfold advI
    rw [List.take_succ_eq_append_getElem hi, adv_append]
    simp only [advD, List.map_append, List.map_cons, List.map_nil, List.flatten_append, List.flatten_cons, List.flatten_nil, List.append_assoc, List.nil_append]
theorem cut8 {A B : List V} {x : Dlt} {n : Nat} (h : A.length = n) : (A ++ vstr x.row.id.src :: vint x.row.id.seq :: vstr x.row.table :: vstr x.row.key :: vint x.row.event :: vVals x.row.fields :: vint x.row.no :: vint x.row.tick :: vint x.tick :: vint x.n :: B).drop (n + 8) = vint x.tick :: vint x.n :: B := by
  rw [← List.drop_drop, List.drop_left' h]; rfl
theorem cut8' {A B : List V} {x : Dlt} {n : Nat} (h : A.length = n) : (A ++ vstr x.row.id.src :: vint x.row.id.seq :: vstr x.row.table :: vstr x.row.key :: vint x.row.event :: vVals x.row.fields :: vint x.row.no :: vint x.row.tick :: vint x.tick :: vint x.n :: B).take (n + 8) = A ++ [vstr x.row.id.src, vint x.row.id.seq, vstr x.row.table, vstr x.row.key, vint x.row.event, vVals x.row.fields, vint x.row.no, vint x.row.tick] := by
  rw [show A ++ vstr x.row.id.src :: vint x.row.id.seq :: vstr x.row.table :: vstr x.row.key :: vint x.row.event :: vVals x.row.fields :: vint x.row.no :: vint x.row.tick :: vint x.tick :: vint x.n :: B = (A ++ [vstr x.row.id.src, vint x.row.id.seq, vstr x.row.table, vstr x.row.key, vint x.row.event, vVals x.row.fields, vint x.row.no, vint x.row.tick]) ++ (vint x.tick :: vint x.n :: B) by simp, List.take_left' (by simp [h])]
theorem cut9 {A B : List V} {x : Dlt} {n : Nat} (h : A.length = n) : (A ++ vstr x.row.id.src :: vint x.row.id.seq :: vstr x.row.table :: vstr x.row.key :: vint x.row.event :: vVals x.row.fields :: vint x.row.no :: vint x.row.tick :: vint x.tick :: vint x.n :: B).drop (n + 9) = vint x.n :: B := by
  rw [← List.drop_drop, List.drop_left' h]; rfl
set_option linter.defProp false in
def tbAIc2 := (And.intro (And.intro (And.intro (And.intro (And.intro (And.intro Ty.sz3 (And.intro Ty.by3 Ty.ag3)) (And.intro Ty.zr3 (And.intro Ty.un3 Ty.sz4))) (And.intro (And.intro Ty.by4 (And.intro Ty.ag4 Ty.zr4)) (And.intro Ty.un4 (And.intro Ty.sz9 Ty.by9)))) (And.intro (And.intro (And.intro Ty.ag9 (And.intro Ty.zr9 Ty.un9)) (And.intro Ty.sz22 (And.intro Ty.by22 Ty.ag22))) (And.intro (And.intro Ty.zr22 (And.intro Ty.un22 Ty.sz24)) (And.intro (And.intro Ty.by24 Ty.ag24) (And.intro Ty.zr24 Ty.fl24_0))))) (And.intro (And.intro (And.intro (And.intro Ty.pl24_0 (And.intro Ty.fl24_1 Ty.pl24_1)) (And.intro Ty.sz29 (And.intro Ty.by29 Ty.ag29))) (And.intro (And.intro Ty.zr29 (And.intro Ty.un29 Ty.sz41)) (And.intro Ty.by41 (And.intro Ty.ag41 Ty.zr41)))) (And.intro (And.intro (And.intro Ty.un41 (And.intro Ty.sz53 Ty.by53)) (And.intro Ty.ag53 (And.intro Ty.zr53 Ty.fl53_0))) (And.intro (And.intro Ty.pl53_0 (And.intro Ty.fl53_1 Ty.pl53_1)) (And.intro (And.intro Ty.sz54 Ty.by54) (And.intro Ty.ag54 Ty.zr54)))))) (And.intro (And.intro (And.intro (And.intro (And.intro Ty.un54 (And.intro Ty.sz56 Ty.by56)) (And.intro Ty.ag56 (And.intro Ty.zr56 Ty.fl56_0))) (And.intro (And.intro Ty.pl56_0 (And.intro Ty.fl56_1 Ty.pl56_1)) (And.intro Ty.fl56_2 (And.intro Ty.pl56_2 Ty.fl56_3)))) (And.intro (And.intro (And.intro Ty.pl56_3 (And.intro Ty.fl56_4 Ty.pl56_4)) (And.intro Ty.fl56_5 (And.intro Ty.pl56_5 Ty.fl56_6))) (And.intro (And.intro Ty.pl56_6 (And.intro Ty.sz61 Ty.by61)) (And.intro (And.intro Ty.ag61 Ty.zr61) (And.intro Ty.fl61_0 Ty.pl61_0))))) (And.intro (And.intro (And.intro (And.intro Ty.fl61_1 (And.intro Ty.pl61_1 Ty.fl61_2)) (And.intro Ty.pl61_2 (And.intro Ty.sz65 Ty.by65))) (And.intro (And.intro Ty.ag65 (And.intro Ty.zr65 Ty.fl65_0)) (And.intro (And.intro Ty.pl65_0 Ty.fl65_1) (And.intro Ty.pl65_1 Ty.sz109)))) (And.intro (And.intro (And.intro Ty.by109 (And.intro Ty.ag109 Ty.zr109)) (And.intro Ty.fl109_0 (And.intro Ty.pl109_0 Ty.fl109_1))) (And.intro (And.intro Ty.pl109_1 (And.intro Ty.fl109_2 Ty.pl109_2)) (And.intro (And.intro Ty.eq53 Ty.eq109) (And.intro Ty.cb34 Ty.cb35)))))))
theorem advP_ok (a : Arr) (s : Int) (ha : fitA a) : OkP Try.prog 12 [vArr a, vint s] (vRes (advA a s)) := by
  have hda : (allD a.groups).length ≤ 4194304 := ha.2.1
  refine Ok.of_ex Ty.mixed Try.func12 rfl (by simp [Try.ntmps12]) (by kernel_rfl) fun F w0 I0 => ?_
  simp only [↓rA, rB, Int.reduceLE, Int.reduceLT, Int.reduceToNat, Nat.reduceAdd, Nat.reduceEqDiff, Nat.reduceLT, Nat.reduceLeDiff, Nat.reduceMul, Nat.reduceSub, reduceCtorEq, tbAIc2, Try.results12]
  refine fun b2 h2 => ?_; replace h2 := newb h2; try simp only [Nb] at h2
  simp only [↓rA, rB, Int.reduceLE, Int.reduceLT, Int.reduceToNat, Nat.reduceAdd, Nat.reduceEqDiff, Nat.reduceLT, Nat.reduceLeDiff, Nat.reduceMul, Nat.reduceSub, reduceCtorEq, tbAIc2, Try.results12]
  refine fun b4 h4 => ?_; replace h4 := newb h4; try simp only [Nb] at h4
  by_cases h1 : maxT < s
  · simp only [↓rA, rB, Int.reduceLE, Int.reduceLT, Int.reduceToNat, Nat.reduceAdd, Nat.reduceEqDiff, Nat.reduceLT, Nat.reduceLeDiff, Nat.reduceMul, Nat.reduceSub, reduceCtorEq, tbAIc2, Try.results12, h2, h4, h1]
    refine ret_le ?_
    unfold advA
    rw [if_pos h1]
    exact Le.two (Le.arr0 _) (Le.refl _)
  · by_cases h3 : s < a.since
    · simp only [↓rA, rB, Int.reduceLE, Int.reduceLT, Int.reduceToNat, Nat.reduceAdd, Nat.reduceEqDiff, Nat.reduceLT, Nat.reduceLeDiff, Nat.reduceMul, Nat.reduceSub, reduceCtorEq, tbAIc2, Try.results12, h2, h4, h1, h3]
      refine ret_le ?_
      unfold advA
      rw [if_neg h1, if_pos h3]
      exact Le.two (Le.arr0 _) (Le.refl _)
    · simp only [↓rA, rB, Int.reduceLE, Int.reduceLT, Int.reduceToNat, Nat.reduceAdd, Nat.reduceEqDiff, Nat.reduceLT, Nat.reduceLeDiff, Nat.reduceMul, Nat.reduceSub, reduceCtorEq, tbAIc2, Try.results12, h2, h4, h1, h3]
      refine OkF_withN [] _ (List.Perm.refl _) (every_ok a ha.1 ha.2.1) ?_
      rintro v bs rs ⟨rfl, be, rfl, rfl⟩ hnd
      simp only [List.map_cons, List.map_nil, List.nodup_cons, List.mem_cons, List.not_mem_nil, or_false, not_or, List.cons_append, List.nil_append] at hnd
      have m1 : be ≠ b4 := hnd.1.1
      have m2 : be ≠ b2 := hnd.1.2
      generalize hD : allD a.groups = D at hda
      have hDf : fitDs D := hD ▸ ha.2
      simp only [↓rA, rB, Int.reduceLE, Int.reduceLT, Int.reduceToNat, Nat.reduceAdd, Nat.reduceEqDiff, Nat.reduceLT, Nat.reduceLeDiff, Nat.reduceMul, Nat.reduceSub, reduceCtorEq, tbAIc2, Try.results12, h2, h4, h1, h3, m1, m2, Ne.symm m1, Ne.symm m2]
      refine EX_for Ty.mixed (by kernel_rfl) D.length (fun i S => S.boxes = [(be, .c ((advI s D i).map cDlt).flatten), (b4, .c [vint 0, nilS]), (b2, .c (cArr a))] ∧ S.rows = [] ∧ S.σ 1 = vint s ∧ S.σ 4 = ptr b4 ∧ S.σ 6 = .lit (.slice (some ⟨be, 0, none⟩) D.length D.length) ∧ S.σ 19 = vint D.length ∧ S.σ 20 = vint i) ⟨0, ?_⟩ (fun i S hi ⟨gb, gr, g1, g4, g6, g19, g20⟩ => ?_) (fun S ⟨gb, gr, g1, g4, g6, g19, g20⟩ => ?_)
      · simp only [↓rA, rB, Int.reduceLE, Int.reduceLT, Int.reduceToNat, Nat.reduceAdd, Nat.reduceEqDiff, Nat.reduceLT, Nat.reduceLeDiff, Nat.reduceMul, Nat.reduceSub, reduceCtorEq, tbAIc2, Try.results12, h2, h4, advI_zero]
        try simp [advI_zero]
      · obtain ⟨A, B, hA, e1, e2⟩ := adv_cells s D i hi []
        rw [List.append_nil] at e1 e2
        rw [e1] at gb
        simp only [↓rA, rB, Int.reduceLE, Int.reduceLT, Int.reduceToNat, Nat.reduceAdd, Nat.reduceEqDiff, Nat.reduceLT, Nat.reduceLeDiff, Nat.reduceMul, Nat.reduceSub, reduceCtorEq, tbAIc2, Try.results12, gb, gr, g1, g4, g6, g19, g20, h2, h4, m1, m2, Ne.symm m1, Ne.symm m2, Int.ofNat_lt, hi, cut8 hA, cut8' hA, cut9 hA, wrap_succ hi (Nat.le_trans hda (by decide))]
        refine ⟨by rw [List.length_append, hA]; simp only [List.length_cons]; omega, 0, ?_⟩
        have hmax : (if s > D[i].tick then s else D[i].tick) = max D[i].tick s := by split <;> omega
        rw [hmax, e2]
        simp
      · rw [advI_all] at gb
        simp only [↓rA, rB, Int.reduceLE, Int.reduceLT, Int.reduceToNat, Nat.reduceAdd, Nat.reduceEqDiff, Nat.reduceLT, Nat.reduceLeDiff, Nat.reduceMul, Nat.reduceSub, reduceCtorEq, tbAIc2, Try.results12, gb, gr, g1, g4, g6, g19, g20, h2, h4, m1, m2, Ne.symm m1, Ne.symm m2, Int.ofNat_lt, Nat.lt_irrefl]
        refine OkF_with [_] [_, _] (List.Perm.refl _) (Ok.consume (n := D.length) (c := D.length) (k := 10) (es := (advD s D).map cDlt) ⟨?_, ?_, ?_, Nat.le_refl _⟩ (.cons (.same _) (.cons .here .nil)) (Ok.le (.cons (Le.refl _) (.cons (Le.list _ _ _) .nil)) (ofP_ok s (advD s D) (hDf.adv s)))) ?_
        · rw [List.take_of_length_le (by rw [cellsD_len, advD_len]; exact Nat.le_refl _)]
        · intro e he
          obtain ⟨x, _, rfl⟩ := List.mem_map.1 he
          rfl
        · rw [List.length_map, advD_len]
        rintro v bs rs ⟨rfl, rfl, rfl⟩
        simp only [↓rA, rB, Int.reduceLE, Int.reduceLT, Int.reduceToNat, Nat.reduceAdd, Nat.reduceEqDiff, Nat.reduceLT, Nat.reduceLeDiff, Nat.reduceMul, Nat.reduceSub, reduceCtorEq, tbAIc2, Try.results12, g4, h2, h4]
        refine ret_le ?_
        unfold advA
        rw [if_neg h1, if_neg h3, hD]
        exact Le.refl _
end Go.Proofs.Ytopfanlkbepemaa

/- Arrangements: plain lemmas on valid arguments, Insert and Advance. -/
set_option linter.unusedSimpArgs false
set_option maxRecDepth 100000
namespace Go.Proofs.Ytopfanlkbepemaa
open Go.VL Go.Ar Go.Proofs.Ytopfanlkbepemaa

theorem right_valid {a : Arr} {d : List Dlt} (ha : fitA a) (h : rightM a d = true) : ArrOk a := by
  unfold rightM at h
  simp only [Bool.and_eq_true, decide_eq_true_eq] at h
  have hv : ValidA a := by
    have h2 := h.2
    unfold checkM at h2
    by_cases hv : ValidA a
    · exact hv
    · rw [if_neg hv] at h2; cases h2
  exact (valid_iff ha.2.okN).1 hv
theorem right_few {a : Arr} {d : List Dlt} (h : rightM a d = true) : d.length + a.groups.length + (allD a.groups).length ≤ 200 := by
  unfold rightM fewM at h
  simp only [Bool.and_eq_true, decide_eq_true_eq] at h
  exact h.1
theorem adv_zero {a b : Arr} {s : Int} (h : advA a s = (b, 0)) : s ≤ maxT ∧ a.since ≤ s ∧ b = ofM s (advD s (allD a.groups)) := by
  unfold advA at h
  split at h
  · simp only [Prod.mk.injEq] at h; exact absurd h.2 (by decide)
  · split at h
    · simp only [Prod.mk.injEq] at h; exact absurd h.2 (by decide)
    · simp only [Prod.mk.injEq] at h
      exact ⟨by omega, by omega, h.1.symm⟩
theorem ids_len (ids : List FID) (h : ids.length ≤ 1048576) : ids.length ≤ 9223372036854775807 := by omega
theorem purA_fit {a : Arr} (ha : fitA a) (ids : List FID) : fitA (purA a ids) := fit_of (ha.2.purge ids)
theorem ins_zero {a b : Arr} {d : List Dlt} (h : insA a d = (b, 0)) : lateB a d = false ∧ b = ofM a.since (allD a.groups ++ d) := by
  unfold insA at h
  split at h
  · simp only [Prod.mk.injEq] at h; exact absurd h.2 (by decide)
  · rename_i hl
    simp only [Prod.mk.injEq] at h
    exact ⟨by simpa using hl, h.1.symm⟩
theorem ins_in {a : Arr} {d : List Dlt} (h : lateB a d = false) : insA a d = (ofM a.since (allD a.groups ++ d), 0) := by unfold insA; rw [if_neg (by rw [h]; decide)]
theorem late_not {a : Arr} {d : List Dlt} (h : lateB a d = false) : ∀ x ∈ d, a.since ≤ x.tick := fun x hx => by
  unfold lateB at h
  rw [List.any_eq_false] at h
  have := h x hx
  simp only [decide_eq_true_eq] at this
  omega
theorem not_late {a : Arr} {d : List Dlt} (h : ∀ x ∈ d, a.since ≤ x.tick) : lateB a d = false := by
  unfold lateB
  rw [List.any_eq_false]
  intro x hx
  have := h x hx
  simp only [decide_eq_true_eq]
  omega
theorem adv_in {a : Arr} {s : Int} (h1 : s ≤ maxT) (h2 : a.since ≤ s) : advA a s = (ofM s (advD s (allD a.groups)), 0) := by
  unfold advA
  rw [if_neg (by omega), if_neg (by omega)]
theorem ofM_len (s : Int) (d : List Dlt) : (allD (ofM s d).groups).length ≤ d.length := grpsM_len d
theorem fit_append {a : Arr} {d : List Dlt} (ha : fitA a) (hd : fitDs d) (h : (allD a.groups).length + d.length ≤ 200) : fitDs (allD a.groups ++ d) :=
  ⟨by rw [List.length_append]; unfold big; omega, fun x hx => (List.mem_append.1 hx).elim (ha.2.2 x) (hd.2 x)⟩
end Go.Proofs.Ytopfanlkbepemaa

/- Arrangements: contracts of the program: New, ever. -/
set_option linter.unusedSimpArgs false
set_option maxRecDepth 100000
namespace Go.Proofs.Ytopfanlkbepemaa
open Go.VL Go.Ar Go.Proofs.Ytopfanlkbepemaa
-- @call 54

set_option linter.defProp false in
def tbAIa0 := (And.intro (And.intro (And.intro (And.intro (And.intro (And.intro Ty.sz3 Ty.by3) (And.intro Ty.ag3 (And.intro Ty.zr3 Ty.un3))) (And.intro (And.intro Ty.sz9 (And.intro Ty.by9 Ty.ag9)) (And.intro Ty.zr9 (And.intro Ty.un9 Ty.sz22)))) (And.intro (And.intro (And.intro Ty.by22 Ty.ag22) (And.intro Ty.zr22 (And.intro Ty.un22 Ty.sz24))) (And.intro (And.intro Ty.by24 (And.intro Ty.ag24 Ty.zr24)) (And.intro Ty.fl24_0 (And.intro Ty.pl24_0 Ty.fl24_1))))) (And.intro (And.intro (And.intro (And.intro Ty.pl24_1 Ty.sz41) (And.intro Ty.by41 (And.intro Ty.ag41 Ty.zr41))) (And.intro (And.intro Ty.un41 (And.intro Ty.sz53 Ty.by53)) (And.intro Ty.ag53 (And.intro Ty.zr53 Ty.fl53_0)))) (And.intro (And.intro (And.intro Ty.pl53_0 (And.intro Ty.fl53_1 Ty.pl53_1)) (And.intro Ty.sz54 (And.intro Ty.by54 Ty.ag54))) (And.intro (And.intro Ty.zr54 (And.intro Ty.un54 Ty.sz56)) (And.intro Ty.by56 (And.intro Ty.ag56 Ty.zr56)))))) (And.intro (And.intro (And.intro (And.intro (And.intro Ty.fl56_0 Ty.pl56_0) (And.intro Ty.fl56_1 (And.intro Ty.pl56_1 Ty.fl56_2))) (And.intro (And.intro Ty.pl56_2 (And.intro Ty.fl56_3 Ty.pl56_3)) (And.intro Ty.fl56_4 (And.intro Ty.pl56_4 Ty.fl56_5)))) (And.intro (And.intro (And.intro Ty.pl56_5 Ty.fl56_6) (And.intro Ty.pl56_6 (And.intro Ty.sz61 Ty.by61))) (And.intro (And.intro Ty.ag61 (And.intro Ty.zr61 Ty.fl61_0)) (And.intro Ty.pl61_0 (And.intro Ty.fl61_1 Ty.pl61_1))))) (And.intro (And.intro (And.intro (And.intro Ty.fl61_2 Ty.pl61_2) (And.intro Ty.sz65 (And.intro Ty.by65 Ty.ag65))) (And.intro (And.intro Ty.zr65 (And.intro Ty.fl65_0 Ty.pl65_0)) (And.intro Ty.fl65_1 (And.intro Ty.pl65_1 Ty.sz109)))) (And.intro (And.intro (And.intro Ty.by109 (And.intro Ty.ag109 Ty.zr109)) (And.intro Ty.fl109_0 (And.intro Ty.pl109_0 Ty.fl109_1))) (And.intro (And.intro Ty.pl109_1 (And.intro Ty.fl109_2 Ty.pl109_2)) (And.intro Ty.eq53 (And.intro Ty.eq109 Ty.cb54)))))))
theorem newP_ok (s : Int) : OkP Try.prog 29 [vint s] (vArr ⟨s, []⟩) := by
  refine Ok.of_ex Ty.mixed Try.func29 rfl (by simp [Try.ntmps29]) (by kernel_rfl) fun F w0 I0 => ?_
  simp only [↓rA, rB, Int.reduceLE, Int.reduceLT, Int.reduceToNat, Nat.reduceAdd, Nat.reduceEqDiff, Nat.reduceLT, Nat.reduceLeDiff, Nat.reduceMul, Nat.reduceSub, reduceCtorEq, tbAIa0, Try.results29]
  refine fun b2 h2 => ?_; replace h2 := newb h2; try simp only [Nb] at h2
  simp only [↓rA, rB, Int.reduceLE, Int.reduceLT, Int.reduceToNat, Nat.reduceAdd, Nat.reduceEqDiff, Nat.reduceLT, Nat.reduceLeDiff, Nat.reduceMul, Nat.reduceSub, reduceCtorEq, tbAIa0, Try.results29, h2]
  exact ret_le (Le.arr0 _)
set_option linter.defProp false in
def tbAIa1 := (And.intro (And.intro (And.intro (And.intro (And.intro (And.intro Ty.sz3 Ty.by3) (And.intro Ty.ag3 (And.intro Ty.zr3 Ty.un3))) (And.intro (And.intro Ty.sz9 (And.intro Ty.by9 Ty.ag9)) (And.intro Ty.zr9 (And.intro Ty.un9 Ty.sz22)))) (And.intro (And.intro (And.intro Ty.by22 Ty.ag22) (And.intro Ty.zr22 (And.intro Ty.un22 Ty.sz24))) (And.intro (And.intro Ty.by24 (And.intro Ty.ag24 Ty.zr24)) (And.intro Ty.fl24_0 (And.intro Ty.pl24_0 Ty.fl24_1))))) (And.intro (And.intro (And.intro (And.intro Ty.pl24_1 Ty.sz41) (And.intro Ty.by41 (And.intro Ty.ag41 Ty.zr41))) (And.intro (And.intro Ty.un41 (And.intro Ty.sz53 Ty.by53)) (And.intro Ty.ag53 (And.intro Ty.zr53 Ty.fl53_0)))) (And.intro (And.intro (And.intro Ty.pl53_0 (And.intro Ty.fl53_1 Ty.pl53_1)) (And.intro Ty.sz54 (And.intro Ty.by54 Ty.ag54))) (And.intro (And.intro Ty.zr54 (And.intro Ty.un54 Ty.sz56)) (And.intro Ty.by56 (And.intro Ty.ag56 Ty.zr56)))))) (And.intro (And.intro (And.intro (And.intro (And.intro Ty.fl56_0 Ty.pl56_0) (And.intro Ty.fl56_1 (And.intro Ty.pl56_1 Ty.fl56_2))) (And.intro (And.intro Ty.pl56_2 (And.intro Ty.fl56_3 Ty.pl56_3)) (And.intro Ty.fl56_4 (And.intro Ty.pl56_4 Ty.fl56_5)))) (And.intro (And.intro (And.intro Ty.pl56_5 Ty.fl56_6) (And.intro Ty.pl56_6 (And.intro Ty.sz61 Ty.by61))) (And.intro (And.intro Ty.ag61 (And.intro Ty.zr61 Ty.fl61_0)) (And.intro Ty.pl61_0 (And.intro Ty.fl61_1 Ty.pl61_1))))) (And.intro (And.intro (And.intro (And.intro Ty.fl61_2 Ty.pl61_2) (And.intro Ty.sz65 (And.intro Ty.by65 Ty.ag65))) (And.intro (And.intro Ty.zr65 (And.intro Ty.fl65_0 Ty.pl65_0)) (And.intro Ty.fl65_1 (And.intro Ty.pl65_1 Ty.sz109)))) (And.intro (And.intro (And.intro Ty.by109 (And.intro Ty.ag109 Ty.zr109)) (And.intro Ty.fl109_0 (And.intro Ty.pl109_0 Ty.fl109_1))) (And.intro (And.intro Ty.pl109_1 (And.intro Ty.fl109_2 Ty.pl109_2)) (And.intro Ty.eq53 (And.intro Ty.eq109 Ty.cb54)))))))
theorem new20_ok (s : Int) : OkP Try.prog 30 [vint s] (vArr ⟨s, []⟩) := by
  refine Ok.of_ex Ty.mixed Try.func30 rfl (by simp [Try.ntmps30]) (by kernel_rfl) fun F w0 I0 => ?_
  simp only [↓rA, rB, Int.reduceLE, Int.reduceLT, Int.reduceToNat, Nat.reduceAdd, Nat.reduceEqDiff, Nat.reduceLT, Nat.reduceLeDiff, Nat.reduceMul, Nat.reduceSub, reduceCtorEq, tbAIa1, Try.results30]
  refine fun b2 h2 => ?_; replace h2 := newb h2; try simp only [Nb] at h2
  simp only [↓rA, rB, Int.reduceLE, Int.reduceLT, Int.reduceToNat, Nat.reduceAdd, Nat.reduceEqDiff, Nat.reduceLT, Nat.reduceLeDiff, Nat.reduceMul, Nat.reduceSub, reduceCtorEq, tbAIa1, Try.results30, h2]
  exact ret_le (Le.arr0 _)
set_option linter.defProp false in
def tbAIa2 := (And.intro (And.intro (And.intro Ty.sz3 (And.intro Ty.by3 Ty.ag3)) (And.intro (And.intro Ty.zr3 Ty.un3) (And.intro Ty.sz26 Ty.by26))) (And.intro (And.intro (And.intro Ty.ag26 Ty.zr26) (And.intro Ty.fl26_0 Ty.pl26_0)) (And.intro (And.intro Ty.fl26_1 Ty.pl26_1) (And.intro Ty.eq26 Ty.cb54))))
theorem ever_ok : OkP Try.prog 24 [] (.agg [vint 0, vint 1099511627776]) := by
  refine Ok.of_ex Ty.mixed Try.func24 rfl (by simp [Try.ntmps24]) (by kernel_rfl) fun F w0 I0 => ?_
  simp only [↓rA, rB, Int.reduceLE, Int.reduceLT, Int.reduceToNat, Nat.reduceAdd, Nat.reduceEqDiff, Nat.reduceLT, Nat.reduceLeDiff, Nat.reduceMul, Nat.reduceSub, reduceCtorEq, tbAIa2, Try.results24]
  refine fun b2 h2 => ?_; replace h2 := newb h2; try simp only [Nb] at h2
  simp only [↓rA, rB, Int.reduceLE, Int.reduceLT, Int.reduceToNat, Nat.reduceAdd, Nat.reduceEqDiff, Nat.reduceLT, Nat.reduceLeDiff, Nat.reduceMul, Nat.reduceSub, reduceCtorEq, tbAIa2, Try.results24, h2]
  exact ret_done rfl

end Go.Proofs.Ytopfanlkbepemaa

/- Arrangements: contracts of the program: same, EqualFunc (the two allocs of a drawn region by an invariant). -/
set_option linter.unusedSimpArgs false
set_option maxRecDepth 100000
namespace Go.Proofs.Ytopfanlkbepemaa
open Go.VL Go.Ar Go.Proofs.Ytopfanlkbepemaa
-- @call 54

/-! ### The same difference -/
section
def zR : List V := [.string { data := #[] }, .int .i64 0, .string { data := #[] }, .string { data := #[] }, .int .i64 0, .slice none 0 0, .int .i64 0, .int .i64 0].map V.lit
def Sh54 (bs : List (Nat × B)) (ra rb : List V) (L : Nat → Bool) (S : St) : Prop :=
  (L 4 = false ∧ L 5 = false ∧ L 6 = false ∧ L 7 = false ∧ S.boxes = bs) ∨
  (∃ b5, L 4 = true ∧ L 5 = false ∧ L 7 = false ∧ Nb b5 bs ∧ S.σ 5 = ptr b5 ∧ S.boxes = (b5, .c (bif L 6 then ra else zR)) :: bs) ∨
  (∃ b6, L 4 = false ∧ L 5 = true ∧ L 6 = false ∧ Nb b6 bs ∧ S.σ 6 = ptr b6 ∧ S.boxes = (b6, .c (bif L 7 then rb else zR)) :: bs) ∨
  (∃ b5 b6, L 4 = true ∧ L 5 = true ∧ b5 ≠ b6 ∧ b6 ≠ b5 ∧ Nb b5 bs ∧ Nb b6 bs ∧ S.σ 5 = ptr b5 ∧ S.σ 6 = ptr b6 ∧ S.boxes = (b5, .c (bif L 6 then ra else zR)) :: (b6, .c (bif L 7 then rb else zR)) :: bs) ∨
  (∃ b5 b6, L 4 = true ∧ L 5 = true ∧ b5 ≠ b6 ∧ b6 ≠ b5 ∧ Nb b5 bs ∧ Nb b6 bs ∧ S.σ 5 = ptr b5 ∧ S.σ 6 = ptr b6 ∧ S.boxes = (b6, .c (bif L 7 then rb else zR)) :: (b5, .c (bif L 6 then ra else zR)) :: bs)
theorem Sh54.keep {bs ra rb L S L' S'} (h : Sh54 bs ra rb L S) (h4 : L' 4 = L 4) (h5 : L' 5 = L 5) (h6 : L' 6 = L 6) (h7 : L' 7 = L 7) (s5 : S'.σ 5 = S.σ 5) (s6 : S'.σ 6 = S.σ 6) (sb : S'.boxes = S.boxes) : Sh54 bs ra rb L' S' := by
  unfold Sh54; rw [h4, h5, h6, h7, s5, s6, sb]; exact h
def In54 (b1 b2 : Nat) (a b : Dlt) (L : Nat → Bool) (S : St) : Prop :=
  S.rows = [] ∧ S.σ 2 = ptr b1 ∧ S.σ 3 = ptr b2 ∧ (L 0 = true → S.σ 7 = ptr b1) ∧ (L 1 = true → S.σ 8 = .agg (cRow a.row)) ∧ (L 2 = true → S.σ 9 = ptr b2) ∧ (L 3 = true → S.σ 10 = .agg (cRow b.row)) ∧ Sh54 [(b2, .c (cDlt b)), (b1, .c (cDlt a))] (cRow a.row) (cRow b.row) L S
set_option linter.defProp false in
def tbAIz0 := (And.intro (And.intro (And.intro (And.intro (And.intro (And.intro Ty.sz3 Ty.by3) (And.intro Ty.ag3 Ty.zr3)) (And.intro (And.intro Ty.un3 Ty.sz4) (And.intro Ty.by4 Ty.ag4))) (And.intro (And.intro (And.intro Ty.zr4 Ty.un4) (And.intro Ty.sz9 Ty.by9)) (And.intro (And.intro Ty.ag9 Ty.zr9) (And.intro Ty.un9 (And.intro Ty.sz53 Ty.by53))))) (And.intro (And.intro (And.intro (And.intro Ty.ag53 Ty.zr53) (And.intro Ty.fl53_0 Ty.pl53_0)) (And.intro (And.intro Ty.fl53_1 Ty.pl53_1) (And.intro Ty.sz54 (And.intro Ty.by54 Ty.ag54)))) (And.intro (And.intro (And.intro Ty.zr54 Ty.un54) (And.intro Ty.sz56 Ty.by56)) (And.intro (And.intro Ty.ag56 Ty.zr56) (And.intro Ty.fl56_0 (And.intro Ty.pl56_0 Ty.fl56_1)))))) (And.intro (And.intro (And.intro (And.intro (And.intro Ty.pl56_1 Ty.fl56_2) (And.intro Ty.pl56_2 Ty.fl56_3)) (And.intro (And.intro Ty.pl56_3 Ty.fl56_4) (And.intro Ty.pl56_4 Ty.fl56_5))) (And.intro (And.intro (And.intro Ty.pl56_5 Ty.fl56_6) (And.intro Ty.pl56_6 Ty.sz61)) (And.intro (And.intro Ty.by61 Ty.ag61) (And.intro Ty.zr61 (And.intro Ty.fl61_0 Ty.pl61_0))))) (And.intro (And.intro (And.intro (And.intro Ty.fl61_1 Ty.pl61_1) (And.intro Ty.fl61_2 Ty.pl61_2)) (And.intro (And.intro Ty.sz109 Ty.by109) (And.intro Ty.ag109 (And.intro Ty.zr109 Ty.fl109_0)))) (And.intro (And.intro (And.intro Ty.pl109_0 Ty.fl109_1) (And.intro Ty.pl109_1 Ty.fl109_2)) (And.intro (And.intro Ty.pl109_2 Ty.eq53) (And.intro Ty.eq109 (And.intro Ty.cb54 Ty.cb75)))))))
set_option maxHeartbeats 2000000 in
theorem same54_ok (a b : Dlt) (hl : okF a.row) : OkP Try.prog 54 [.agg (cDlt a), .agg (cDlt b)] (vbool (decide (a = b))) := by
  refine Ok.of_exM [(1, 3)] Ty.mixed Try.func54 rfl (by simp [Try.ntmps54]) (by kernel_rfl) fun F w0 I0 => ?_
  simp only [↓rA, rB, Int.reduceLE, Int.reduceLT, Int.reduceToNat, Nat.reduceAdd, Nat.reduceEqDiff, Nat.reduceLT, Nat.reduceLeDiff, Nat.reduceMul, Nat.reduceSub, reduceCtorEq, tbAIz0, Try.results54]
  refine fun b1 h1 => ?_; replace h1 := newb h1; try simp only [Nb] at h1
  simp only [↓rA, rB, Int.reduceLE, Int.reduceLT, Int.reduceToNat, Nat.reduceAdd, Nat.reduceEqDiff, Nat.reduceLT, Nat.reduceLeDiff, Nat.reduceMul, Nat.reduceSub, reduceCtorEq, tbAIz0, Try.results54]
  refine fun b2 h2 => ?_; replace h2 := newb h2; try simp only [Nb] at h2
  simp only [↓rA, rB, Int.reduceLE, Int.reduceLT, Int.reduceToNat, Nat.reduceAdd, Nat.reduceEqDiff, Nat.reduceLT, Nat.reduceLeDiff, Nat.reduceMul, Nat.reduceSub, reduceCtorEq, tbAIz0, Try.results54, h1, h2]
  refine EX_inv (some true) Ty.mixed (by kernel_rfl) (by kernel_rfl) (In54 b1 b2 a b) ?_ ?_ ?_
  · refine ⟨?_, ?_, ?_, fun h => (by cases h), fun h => (by cases h), fun h => (by cases h), fun h => (by cases h), .inl ⟨rfl, rfl, rfl, rfl, ?_⟩⟩ <;> simp only [↓rA, rB, Int.reduceLE, Int.reduceLT, Int.reduceToNat, Nat.reduceAdd, Nat.reduceEqDiff, Nat.reduceLT, Nat.reduceLeDiff, Nat.reduceMul, Nat.reduceSub, reduceCtorEq, tbAIz0, Try.results54]
  · intro L S i o ho hL he ⟨gr, g2, g3, g7, g8, g9, g10, gs⟩
    have gk := gs
    match i, ho with
    | 0, ho =>
      cases ho
      rcases gs with ⟨h4, h5, h6, h7, gb⟩ | ⟨b5, h4, h5, h7, n5, g5, gb⟩ | ⟨b6, h4, h5, h6, n6, g6, gb⟩ | ⟨b5, b6, h4, h5, n, n', n5, n6, g5, g6, gb⟩ | ⟨b5, b6, h4, h5, n, n', n5, n6, g5, g6, gb⟩
      · simp only [↓rA, rB, Int.reduceLE, Int.reduceLT, Int.reduceToNat, Nat.reduceAdd, Nat.reduceEqDiff, Nat.reduceLT, Nat.reduceLeDiff, Nat.reduceMul, Nat.reduceSub, reduceCtorEq, tbAIz0, Try.results54, gr, g2, g3, gb, h1, h2]
        exact ⟨gr, g2, g3, fun _ => rfl, g8, g9, g10, gk.keep rfl rfl rfl rfl rfl rfl rfl⟩
      · simp only [Nb] at n5
        simp only [↓rA, rB, Int.reduceLE, Int.reduceLT, Int.reduceToNat, Nat.reduceAdd, Nat.reduceEqDiff, Nat.reduceLT, Nat.reduceLeDiff, Nat.reduceMul, Nat.reduceSub, reduceCtorEq, tbAIz0, Try.results54, gr, g2, g3, gb, h1, h2, n5, g5]
        exact ⟨gr, g2, g3, fun _ => rfl, g8, g9, g10, gk.keep rfl rfl rfl rfl rfl rfl rfl⟩
      · simp only [Nb] at n6
        simp only [↓rA, rB, Int.reduceLE, Int.reduceLT, Int.reduceToNat, Nat.reduceAdd, Nat.reduceEqDiff, Nat.reduceLT, Nat.reduceLeDiff, Nat.reduceMul, Nat.reduceSub, reduceCtorEq, tbAIz0, Try.results54, gr, g2, g3, gb, h1, h2, n6, g6]
        exact ⟨gr, g2, g3, fun _ => rfl, g8, g9, g10, gk.keep rfl rfl rfl rfl rfl rfl rfl⟩
      · simp only [Nb] at n5 n6
        simp only [↓rA, rB, Int.reduceLE, Int.reduceLT, Int.reduceToNat, Nat.reduceAdd, Nat.reduceEqDiff, Nat.reduceLT, Nat.reduceLeDiff, Nat.reduceMul, Nat.reduceSub, reduceCtorEq, tbAIz0, Try.results54, gr, g2, g3, gb, h1, h2, n, n', n5, n6, g5, g6]
        exact ⟨gr, g2, g3, fun _ => rfl, g8, g9, g10, gk.keep rfl rfl rfl rfl rfl rfl rfl⟩
      · simp only [Nb] at n5 n6
        simp only [↓rA, rB, Int.reduceLE, Int.reduceLT, Int.reduceToNat, Nat.reduceAdd, Nat.reduceEqDiff, Nat.reduceLT, Nat.reduceLeDiff, Nat.reduceMul, Nat.reduceSub, reduceCtorEq, tbAIz0, Try.results54, gr, g2, g3, gb, h1, h2, n, n', n5, n6, g5, g6]
        exact ⟨gr, g2, g3, fun _ => rfl, g8, g9, g10, gk.keep rfl rfl rfl rfl rfl rfl rfl⟩
    | 1, ho =>
      cases ho
      have g7' := g7 (he ⟨0, .data⟩ (by simp) rfl)
      rcases gs with ⟨h4, h5, h6, h7, gb⟩ | ⟨b5, h4, h5, h7, n5, g5, gb⟩ | ⟨b6, h4, h5, h6, n6, g6, gb⟩ | ⟨b5, b6, h4, h5, n, n', n5, n6, g5, g6, gb⟩ | ⟨b5, b6, h4, h5, n, n', n5, n6, g5, g6, gb⟩
      · simp only [↓rA, rB, Int.reduceLE, Int.reduceLT, Int.reduceToNat, Nat.reduceAdd, Nat.reduceEqDiff, Nat.reduceLT, Nat.reduceLeDiff, Nat.reduceMul, Nat.reduceSub, reduceCtorEq, tbAIz0, Try.results54, gr, g2, g3, gb, h1, h2, g7']
        exact ⟨gr, g2, g3, g7, fun _ => rfl, g9, g10, gk.keep rfl rfl rfl rfl rfl rfl rfl⟩
      · simp only [Nb] at n5
        simp only [↓rA, rB, Int.reduceLE, Int.reduceLT, Int.reduceToNat, Nat.reduceAdd, Nat.reduceEqDiff, Nat.reduceLT, Nat.reduceLeDiff, Nat.reduceMul, Nat.reduceSub, reduceCtorEq, tbAIz0, Try.results54, gr, g2, g3, gb, h1, h2, g7', n5, g5]
        exact ⟨gr, g2, g3, g7, fun _ => rfl, g9, g10, gk.keep rfl rfl rfl rfl rfl rfl rfl⟩
      · simp only [Nb] at n6
        simp only [↓rA, rB, Int.reduceLE, Int.reduceLT, Int.reduceToNat, Nat.reduceAdd, Nat.reduceEqDiff, Nat.reduceLT, Nat.reduceLeDiff, Nat.reduceMul, Nat.reduceSub, reduceCtorEq, tbAIz0, Try.results54, gr, g2, g3, gb, h1, h2, g7', n6, g6]
        exact ⟨gr, g2, g3, g7, fun _ => rfl, g9, g10, gk.keep rfl rfl rfl rfl rfl rfl rfl⟩
      · simp only [Nb] at n5 n6
        simp only [↓rA, rB, Int.reduceLE, Int.reduceLT, Int.reduceToNat, Nat.reduceAdd, Nat.reduceEqDiff, Nat.reduceLT, Nat.reduceLeDiff, Nat.reduceMul, Nat.reduceSub, reduceCtorEq, tbAIz0, Try.results54, gr, g2, g3, gb, h1, h2, g7', n, n', n5, n6, g5, g6]
        exact ⟨gr, g2, g3, g7, fun _ => rfl, g9, g10, gk.keep rfl rfl rfl rfl rfl rfl rfl⟩
      · simp only [Nb] at n5 n6
        simp only [↓rA, rB, Int.reduceLE, Int.reduceLT, Int.reduceToNat, Nat.reduceAdd, Nat.reduceEqDiff, Nat.reduceLT, Nat.reduceLeDiff, Nat.reduceMul, Nat.reduceSub, reduceCtorEq, tbAIz0, Try.results54, gr, g2, g3, gb, h1, h2, g7', n, n', n5, n6, g5, g6]
        exact ⟨gr, g2, g3, g7, fun _ => rfl, g9, g10, gk.keep rfl rfl rfl rfl rfl rfl rfl⟩
    | 2, ho =>
      cases ho
      rcases gs with ⟨h4, h5, h6, h7, gb⟩ | ⟨b5, h4, h5, h7, n5, g5, gb⟩ | ⟨b6, h4, h5, h6, n6, g6, gb⟩ | ⟨b5, b6, h4, h5, n, n', n5, n6, g5, g6, gb⟩ | ⟨b5, b6, h4, h5, n, n', n5, n6, g5, g6, gb⟩
      · simp only [↓rA, rB, Int.reduceLE, Int.reduceLT, Int.reduceToNat, Nat.reduceAdd, Nat.reduceEqDiff, Nat.reduceLT, Nat.reduceLeDiff, Nat.reduceMul, Nat.reduceSub, reduceCtorEq, tbAIz0, Try.results54, gr, g2, g3, gb, h1, h2]
        exact ⟨gr, g2, g3, g7, g8, fun _ => rfl, g10, gk.keep rfl rfl rfl rfl rfl rfl rfl⟩
      · simp only [Nb] at n5
        simp only [↓rA, rB, Int.reduceLE, Int.reduceLT, Int.reduceToNat, Nat.reduceAdd, Nat.reduceEqDiff, Nat.reduceLT, Nat.reduceLeDiff, Nat.reduceMul, Nat.reduceSub, reduceCtorEq, tbAIz0, Try.results54, gr, g2, g3, gb, h1, h2, n5, g5]
        exact ⟨gr, g2, g3, g7, g8, fun _ => rfl, g10, gk.keep rfl rfl rfl rfl rfl rfl rfl⟩
      · simp only [Nb] at n6
        simp only [↓rA, rB, Int.reduceLE, Int.reduceLT, Int.reduceToNat, Nat.reduceAdd, Nat.reduceEqDiff, Nat.reduceLT, Nat.reduceLeDiff, Nat.reduceMul, Nat.reduceSub, reduceCtorEq, tbAIz0, Try.results54, gr, g2, g3, gb, h1, h2, n6, g6]
        exact ⟨gr, g2, g3, g7, g8, fun _ => rfl, g10, gk.keep rfl rfl rfl rfl rfl rfl rfl⟩
      · simp only [Nb] at n5 n6
        simp only [↓rA, rB, Int.reduceLE, Int.reduceLT, Int.reduceToNat, Nat.reduceAdd, Nat.reduceEqDiff, Nat.reduceLT, Nat.reduceLeDiff, Nat.reduceMul, Nat.reduceSub, reduceCtorEq, tbAIz0, Try.results54, gr, g2, g3, gb, h1, h2, n, n', n5, n6, g5, g6]
        exact ⟨gr, g2, g3, g7, g8, fun _ => rfl, g10, gk.keep rfl rfl rfl rfl rfl rfl rfl⟩
      · simp only [Nb] at n5 n6
        simp only [↓rA, rB, Int.reduceLE, Int.reduceLT, Int.reduceToNat, Nat.reduceAdd, Nat.reduceEqDiff, Nat.reduceLT, Nat.reduceLeDiff, Nat.reduceMul, Nat.reduceSub, reduceCtorEq, tbAIz0, Try.results54, gr, g2, g3, gb, h1, h2, n, n', n5, n6, g5, g6]
        exact ⟨gr, g2, g3, g7, g8, fun _ => rfl, g10, gk.keep rfl rfl rfl rfl rfl rfl rfl⟩
    | 3, ho =>
      cases ho
      have g9' := g9 (he ⟨2, .data⟩ (by simp) rfl)
      rcases gs with ⟨h4, h5, h6, h7, gb⟩ | ⟨b5, h4, h5, h7, n5, g5, gb⟩ | ⟨b6, h4, h5, h6, n6, g6, gb⟩ | ⟨b5, b6, h4, h5, n, n', n5, n6, g5, g6, gb⟩ | ⟨b5, b6, h4, h5, n, n', n5, n6, g5, g6, gb⟩
      · simp only [↓rA, rB, Int.reduceLE, Int.reduceLT, Int.reduceToNat, Nat.reduceAdd, Nat.reduceEqDiff, Nat.reduceLT, Nat.reduceLeDiff, Nat.reduceMul, Nat.reduceSub, reduceCtorEq, tbAIz0, Try.results54, gr, g2, g3, gb, h1, h2, g9']
        exact ⟨gr, g2, g3, g7, g8, g9, fun _ => rfl, gk.keep rfl rfl rfl rfl rfl rfl rfl⟩
      · simp only [Nb] at n5
        simp only [↓rA, rB, Int.reduceLE, Int.reduceLT, Int.reduceToNat, Nat.reduceAdd, Nat.reduceEqDiff, Nat.reduceLT, Nat.reduceLeDiff, Nat.reduceMul, Nat.reduceSub, reduceCtorEq, tbAIz0, Try.results54, gr, g2, g3, gb, h1, h2, g9', n5, g5]
        exact ⟨gr, g2, g3, g7, g8, g9, fun _ => rfl, gk.keep rfl rfl rfl rfl rfl rfl rfl⟩
      · simp only [Nb] at n6
        simp only [↓rA, rB, Int.reduceLE, Int.reduceLT, Int.reduceToNat, Nat.reduceAdd, Nat.reduceEqDiff, Nat.reduceLT, Nat.reduceLeDiff, Nat.reduceMul, Nat.reduceSub, reduceCtorEq, tbAIz0, Try.results54, gr, g2, g3, gb, h1, h2, g9', n6, g6]
        exact ⟨gr, g2, g3, g7, g8, g9, fun _ => rfl, gk.keep rfl rfl rfl rfl rfl rfl rfl⟩
      · simp only [Nb] at n5 n6
        simp only [↓rA, rB, Int.reduceLE, Int.reduceLT, Int.reduceToNat, Nat.reduceAdd, Nat.reduceEqDiff, Nat.reduceLT, Nat.reduceLeDiff, Nat.reduceMul, Nat.reduceSub, reduceCtorEq, tbAIz0, Try.results54, gr, g2, g3, gb, h1, h2, g9', n, n', n5, n6, g5, g6]
        exact ⟨gr, g2, g3, g7, g8, g9, fun _ => rfl, gk.keep rfl rfl rfl rfl rfl rfl rfl⟩
      · simp only [Nb] at n5 n6
        simp only [↓rA, rB, Int.reduceLE, Int.reduceLT, Int.reduceToNat, Nat.reduceAdd, Nat.reduceEqDiff, Nat.reduceLT, Nat.reduceLeDiff, Nat.reduceMul, Nat.reduceSub, reduceCtorEq, tbAIz0, Try.results54, gr, g2, g3, gb, h1, h2, g9', n, n', n5, n6, g5, g6]
        exact ⟨gr, g2, g3, g7, g8, g9, fun _ => rfl, gk.keep rfl rfl rfl rfl rfl rfl rfl⟩
    | 4, ho =>
      cases ho
      rcases gs with ⟨h4, h5, h6, h7, gb⟩ | ⟨b5, h4, h5, h7, n5, g5, gb⟩ | ⟨b6, h4, h5, h6, n6, g6, gb⟩ | ⟨b5, b6, h4, h5, n, n', n5, n6, g5, g6, gb⟩ | ⟨b5, b6, h4, h5, n, n', n5, n6, g5, g6, gb⟩
      · simp only [↓rA, rB, Int.reduceLE, Int.reduceLT, Int.reduceToNat, Nat.reduceAdd, Nat.reduceEqDiff, Nat.reduceLT, Nat.reduceLeDiff, Nat.reduceMul, Nat.reduceSub, reduceCtorEq, tbAIz0, Try.results54, gr, g2, g3, gb, h1, h2]
        refine fun b5 n5 => ?_; replace n5 := newb n5; try simp only [Nb] at n5
        simp only [↓rA, rB, Int.reduceLE, Int.reduceLT, Int.reduceToNat, Nat.reduceAdd, Nat.reduceEqDiff, Nat.reduceLT, Nat.reduceLeDiff, Nat.reduceMul, Nat.reduceSub, reduceCtorEq, tbAIz0, Try.results54, gr, g2, g3, gb, h1, h2, n5]
        exact ⟨gr, g2, g3, g7, g8, g9, g10, .inr (.inl ⟨b5, rfl, h5, h7, n5, rfl, by show _ :: S.boxes = (_, B.c (bif L 6 then _ else zR)) :: _; rw [gb, h6]; rfl⟩)⟩
      · rw [h4] at hL; cases hL
      · simp only [Nb] at n6
        simp only [↓rA, rB, Int.reduceLE, Int.reduceLT, Int.reduceToNat, Nat.reduceAdd, Nat.reduceEqDiff, Nat.reduceLT, Nat.reduceLeDiff, Nat.reduceMul, Nat.reduceSub, reduceCtorEq, tbAIz0, Try.results54, gr, g2, g3, gb, h1, h2, n6]
        refine fun b5 n5 => ?_; replace n5 := newb n5; try simp only [Nb] at n5
        simp only [↓rA, rB, Int.reduceLE, Int.reduceLT, Int.reduceToNat, Nat.reduceAdd, Nat.reduceEqDiff, Nat.reduceLT, Nat.reduceLeDiff, Nat.reduceMul, Nat.reduceSub, reduceCtorEq, tbAIz0, Try.results54, gr, g2, g3, gb, h1, h2, n6, n5]
        exact ⟨gr, g2, g3, g7, g8, g9, g10, .inr (.inr (.inr (.inl ⟨b5, b6, rfl, h5, n5.1.2, n5.1.1, n5.2, n6, rfl, g6, by show _ :: S.boxes = (_, B.c (bif L 6 then _ else zR)) :: _; rw [gb, h6]; rfl⟩)))⟩
      · rw [h4] at hL; cases hL
      · rw [h4] at hL; cases hL
    | 5, ho =>
      cases ho
      rcases gs with ⟨h4, h5, h6, h7, gb⟩ | ⟨b5, h4, h5, h7, n5, g5, gb⟩ | ⟨b6, h4, h5, h6, n6, g6, gb⟩ | ⟨b5, b6, h4, h5, n, n', n5, n6, g5, g6, gb⟩ | ⟨b5, b6, h4, h5, n, n', n5, n6, g5, g6, gb⟩
      · simp only [↓rA, rB, Int.reduceLE, Int.reduceLT, Int.reduceToNat, Nat.reduceAdd, Nat.reduceEqDiff, Nat.reduceLT, Nat.reduceLeDiff, Nat.reduceMul, Nat.reduceSub, reduceCtorEq, tbAIz0, Try.results54, gr, g2, g3, gb, h1, h2]
        refine fun b6 n6 => ?_; replace n6 := newb n6; try simp only [Nb] at n6
        simp only [↓rA, rB, Int.reduceLE, Int.reduceLT, Int.reduceToNat, Nat.reduceAdd, Nat.reduceEqDiff, Nat.reduceLT, Nat.reduceLeDiff, Nat.reduceMul, Nat.reduceSub, reduceCtorEq, tbAIz0, Try.results54, gr, g2, g3, gb, h1, h2, n6]
        exact ⟨gr, g2, g3, g7, g8, g9, g10, .inr (.inr (.inl ⟨b6, h4, rfl, h6, n6, rfl, by show _ :: S.boxes = (_, B.c (bif L 7 then _ else zR)) :: _; rw [gb, h7]; rfl⟩))⟩
      · simp only [Nb] at n5
        simp only [↓rA, rB, Int.reduceLE, Int.reduceLT, Int.reduceToNat, Nat.reduceAdd, Nat.reduceEqDiff, Nat.reduceLT, Nat.reduceLeDiff, Nat.reduceMul, Nat.reduceSub, reduceCtorEq, tbAIz0, Try.results54, gr, g2, g3, gb, h1, h2, n5]
        refine fun b6 n6 => ?_; replace n6 := newb n6; try simp only [Nb] at n6
        simp only [↓rA, rB, Int.reduceLE, Int.reduceLT, Int.reduceToNat, Nat.reduceAdd, Nat.reduceEqDiff, Nat.reduceLT, Nat.reduceLeDiff, Nat.reduceMul, Nat.reduceSub, reduceCtorEq, tbAIz0, Try.results54, gr, g2, g3, gb, h1, h2, n5, n6]
        exact ⟨gr, g2, g3, g7, g8, g9, g10, .inr (.inr (.inr (.inr ⟨b5, b6, h4, rfl, n6.1.1, n6.1.2, n5, n6.2, g5, rfl, by show _ :: S.boxes = (_, B.c (bif L 7 then _ else zR)) :: _; rw [gb, h7]; rfl⟩)))⟩
      · rw [h5] at hL; cases hL
      · rw [h5] at hL; cases hL
      · rw [h5] at hL; cases hL
    | 6, ho =>
      cases ho
      have g8' := g8 (he ⟨1, .data⟩ (by simp) rfl)
      have h4' := he ⟨4, .data⟩ (by simp) rfl
      replace h4' : L 4 = true := h4'
      rcases gs with ⟨h4, h5, h6, h7, gb⟩ | ⟨b5, h4, h5, h7, n5, g5, gb⟩ | ⟨b6, h4, h5, h6, n6, g6, gb⟩ | ⟨b5, b6, h4, h5, n, n', n5, n6, g5, g6, gb⟩ | ⟨b5, b6, h4, h5, n, n', n5, n6, g5, g6, gb⟩
      · rw [h4] at h4'; cases h4'
      · simp only [Nb] at n5
        simp only [↓rA, rB, Int.reduceLE, Int.reduceLT, Int.reduceToNat, Nat.reduceAdd, Nat.reduceEqDiff, Nat.reduceLT, Nat.reduceLeDiff, Nat.reduceMul, Nat.reduceSub, reduceCtorEq, tbAIz0, Try.results54, gr, g2, g3, gb, h1, h2, n5, g5, g8', hL, cond_false, zR]
        exact ⟨gr, g2, g3, g7, g8, g9, g10, .inr (.inl ⟨b5, h4, h5, h7, n5, g5, rfl⟩)⟩
      · rw [h4] at h4'; cases h4'
      · simp only [Nb] at n5 n6
        simp only [↓rA, rB, Int.reduceLE, Int.reduceLT, Int.reduceToNat, Nat.reduceAdd, Nat.reduceEqDiff, Nat.reduceLT, Nat.reduceLeDiff, Nat.reduceMul, Nat.reduceSub, reduceCtorEq, tbAIz0, Try.results54, gr, g2, g3, gb, h1, h2, n5, g5, n6, n, n', g6, g8', hL, cond_false, zR]
        exact ⟨gr, g2, g3, g7, g8, g9, g10, .inr (.inr (.inr (.inl ⟨b5, b6, h4, h5, n, n', n5, n6, g5, g6, rfl⟩)))⟩
      · simp only [Nb] at n5 n6
        simp only [↓rA, rB, Int.reduceLE, Int.reduceLT, Int.reduceToNat, Nat.reduceAdd, Nat.reduceEqDiff, Nat.reduceLT, Nat.reduceLeDiff, Nat.reduceMul, Nat.reduceSub, reduceCtorEq, tbAIz0, Try.results54, gr, g2, g3, gb, h1, h2, n5, g5, n6, n, n', g6, g8', hL, cond_false, zR]
        exact ⟨gr, g2, g3, g7, g8, g9, g10, .inr (.inr (.inr (.inr ⟨b5, b6, h4, h5, n, n', n5, n6, g5, g6, rfl⟩)))⟩
    | 7, ho =>
      cases ho
      have g10' := g10 (he ⟨3, .data⟩ (by simp) rfl)
      have h5' := he ⟨5, .data⟩ (by simp) rfl
      replace h5' : L 5 = true := h5'
      rcases gs with ⟨h4, h5, h6, h7, gb⟩ | ⟨b5, h4, h5, h7, n5, g5, gb⟩ | ⟨b6, h4, h5, h6, n6, g6, gb⟩ | ⟨b5, b6, h4, h5, n, n', n5, n6, g5, g6, gb⟩ | ⟨b5, b6, h4, h5, n, n', n5, n6, g5, g6, gb⟩
      · rw [h5] at h5'; cases h5'
      · rw [h5] at h5'; cases h5'
      · simp only [Nb] at n6
        simp only [↓rA, rB, Int.reduceLE, Int.reduceLT, Int.reduceToNat, Nat.reduceAdd, Nat.reduceEqDiff, Nat.reduceLT, Nat.reduceLeDiff, Nat.reduceMul, Nat.reduceSub, reduceCtorEq, tbAIz0, Try.results54, gr, g2, g3, gb, h1, h2, n6, g6, g10', hL, cond_false, zR]
        exact ⟨gr, g2, g3, g7, g8, g9, g10, .inr (.inr (.inl ⟨b6, h4, h5, h6, n6, g6, rfl⟩))⟩
      · simp only [Nb] at n5 n6
        simp only [↓rA, rB, Int.reduceLE, Int.reduceLT, Int.reduceToNat, Nat.reduceAdd, Nat.reduceEqDiff, Nat.reduceLT, Nat.reduceLeDiff, Nat.reduceMul, Nat.reduceSub, reduceCtorEq, tbAIz0, Try.results54, gr, g2, g3, gb, h1, h2, n5, g5, n6, n, n', g6, g10', hL, cond_false, zR]
        exact ⟨gr, g2, g3, g7, g8, g9, g10, .inr (.inr (.inr (.inl ⟨b5, b6, h4, h5, n, n', n5, n6, g5, g6, rfl⟩)))⟩
      · simp only [Nb] at n5 n6
        simp only [↓rA, rB, Int.reduceLE, Int.reduceLT, Int.reduceToNat, Nat.reduceAdd, Nat.reduceEqDiff, Nat.reduceLT, Nat.reduceLeDiff, Nat.reduceMul, Nat.reduceSub, reduceCtorEq, tbAIz0, Try.results54, gr, g2, g3, gb, h1, h2, n5, g5, n6, n, n', g6, g10', hL, cond_false, zR]
        exact ⟨gr, g2, g3, g7, g8, g9, g10, .inr (.inr (.inr (.inr ⟨b5, b6, h4, h5, n, n', n5, n6, g5, g6, rfl⟩)))⟩
    | n + 8, ho => cases ho
  · intro L S hL ⟨gr, g2, g3, g7, g8, g9, g10, gs⟩
    replace hL : ∀ i, i < 8 → L i = true := hL
    have l6 := hL 6 (by decide)
    have l7 := hL 7 (by decide)
    have ext : a = b ↔ a.tick = b.tick ∧ a.n = b.n ∧ (a.row.id.src = b.row.id.src ∧ a.row.id.seq = b.row.id.seq) ∧ a.row.table = b.row.table ∧ a.row.key = b.row.key ∧ a.row.event = b.row.event ∧ a.row.no = b.row.no ∧ a.row.tick = b.row.tick ∧ a.row.fields = b.row.fields := by
      cases a with | mk r1 _ _ => cases b with | mk r2 _ _ => cases r1 with | mk i1 _ _ _ _ _ _ => cases r2 with | mk i2 _ _ _ _ _ _ => cases i1; cases i2; simp; exact ⟨fun ⟨⟨a, b, c, d, e, f, g⟩, h, i⟩ => ⟨h, i, a, b, c, d, f, g, e⟩, fun ⟨h, i, a, b, c, d, f, g, e⟩ => ⟨⟨a, b, c, d, e, f, g⟩, h, i⟩⟩
    have fin : ∀ x : Bool, (x = true ↔ a = b) → vbool x = vbool (decide (a = b)) := fun x hx => by
      congr 2; rw [Bool.eq_iff_iff, hx, decide_eq_true_eq]
    rcases gs with ⟨h4, h5, h6, h7, gb⟩ | ⟨b5, h4, h5, h7, n5, g5, gb⟩ | ⟨b6, h4, h5, h6, n6, g6, gb⟩ | ⟨b5, b6, h4, h5, n, n', n5, n6, g5, g6, gb⟩ | ⟨b5, b6, h4, h5, n, n', n5, n6, g5, g6, gb⟩
    · rw [hL 4 (by decide)] at h4; cases h4
    · rw [hL 5 (by decide)] at h5; cases h5
    · rw [hL 4 (by decide)] at h4; cases h4
    · simp only [Nb] at n5 n6
      by_cases e1 : a.tick = b.tick
      · skip
        by_cases e2 : a.n = b.n
        · skip
          by_cases e3 : a.row.id.src = b.row.id.src ∧ a.row.id.seq = b.row.id.seq
          · skip
            by_cases e4 : a.row.table = b.row.table
            · skip
              by_cases e5 : a.row.key = b.row.key
              · skip
                by_cases e6 : a.row.event = b.row.event
                · skip
                  by_cases e7 : a.row.no = b.row.no
                  · skip
                    by_cases e8 : a.row.tick = b.row.tick
                    · skip
                      simp only [↓rA, rB, Int.reduceLE, Int.reduceLT, Int.reduceToNat, Nat.reduceAdd, Nat.reduceEqDiff, Nat.reduceLT, Nat.reduceLeDiff, Nat.reduceMul, Nat.reduceSub, reduceCtorEq, tbAIz0, Try.results54, gr, g2, g3, gb, h1, h2, n5, g5, n6, n, n', g6, l6, l7, cond_true, e1, e2, e3, e4, e5, e6, e7, e8]
                      refine OkF_of _ (equalVals_ok a.row.fields b.row.fields hl) ?_
                      by_cases e9 : a.row.fields = b.row.fields
                      · simp only [↓rA, rB, Int.reduceLE, Int.reduceLT, Int.reduceToNat, Nat.reduceAdd, Nat.reduceEqDiff, Nat.reduceLT, Nat.reduceLeDiff, Nat.reduceMul, Nat.reduceSub, reduceCtorEq, tbAIz0, Try.results54, gr, g2, g3, gb, e9]
                        exact ret_done (fin _ (by rw [ext]; simp [e1, e2, e3, e4, e5, e6, e7, e8, e9]))
                      · simp only [↓rA, rB, Int.reduceLE, Int.reduceLT, Int.reduceToNat, Nat.reduceAdd, Nat.reduceEqDiff, Nat.reduceLT, Nat.reduceLeDiff, Nat.reduceMul, Nat.reduceSub, reduceCtorEq, tbAIz0, Try.results54, gr, g2, g3, gb, e9]
                        exact ret_done (fin _ (by rw [ext]; simp [e9]))
                    · simp only [↓rA, rB, Int.reduceLE, Int.reduceLT, Int.reduceToNat, Nat.reduceAdd, Nat.reduceEqDiff, Nat.reduceLT, Nat.reduceLeDiff, Nat.reduceMul, Nat.reduceSub, reduceCtorEq, tbAIz0, Try.results54, gr, g2, g3, gb, h1, h2, n5, g5, n6, n, n', g6, l6, l7, cond_true, e1, e2, e3, e4, e5, e6, e7, e8]
                      exact ret_done (fin _ (by rw [ext]; simp [e8]))
                  · simp only [↓rA, rB, Int.reduceLE, Int.reduceLT, Int.reduceToNat, Nat.reduceAdd, Nat.reduceEqDiff, Nat.reduceLT, Nat.reduceLeDiff, Nat.reduceMul, Nat.reduceSub, reduceCtorEq, tbAIz0, Try.results54, gr, g2, g3, gb, h1, h2, n5, g5, n6, n, n', g6, l6, l7, cond_true, e1, e2, e3, e4, e5, e6, e7]
                    exact ret_done (fin _ (by rw [ext]; simp [e7]))
                · simp only [↓rA, rB, Int.reduceLE, Int.reduceLT, Int.reduceToNat, Nat.reduceAdd, Nat.reduceEqDiff, Nat.reduceLT, Nat.reduceLeDiff, Nat.reduceMul, Nat.reduceSub, reduceCtorEq, tbAIz0, Try.results54, gr, g2, g3, gb, h1, h2, n5, g5, n6, n, n', g6, l6, l7, cond_true, e1, e2, e3, e4, e5, e6]
                  exact ret_done (fin _ (by rw [ext]; simp [e6]))
              · simp only [↓rA, rB, Int.reduceLE, Int.reduceLT, Int.reduceToNat, Nat.reduceAdd, Nat.reduceEqDiff, Nat.reduceLT, Nat.reduceLeDiff, Nat.reduceMul, Nat.reduceSub, reduceCtorEq, tbAIz0, Try.results54, gr, g2, g3, gb, h1, h2, n5, g5, n6, n, n', g6, l6, l7, cond_true, e1, e2, e3, e4, e5]
                exact ret_done (fin _ (by rw [ext]; simp [e5]))
            · simp only [↓rA, rB, Int.reduceLE, Int.reduceLT, Int.reduceToNat, Nat.reduceAdd, Nat.reduceEqDiff, Nat.reduceLT, Nat.reduceLeDiff, Nat.reduceMul, Nat.reduceSub, reduceCtorEq, tbAIz0, Try.results54, gr, g2, g3, gb, h1, h2, n5, g5, n6, n, n', g6, l6, l7, cond_true, e1, e2, e3, e4]
              exact ret_done (fin _ (by rw [ext]; simp [e4]))
          · have hf : (decide (a.row.id.src = b.row.id.src) && decide (a.row.id.seq = b.row.id.seq)) = false := by
              rw [Bool.eq_false_iff]; simpa using e3
            simp only [↓rA, rB, Int.reduceLE, Int.reduceLT, Int.reduceToNat, Nat.reduceAdd, Nat.reduceEqDiff, Nat.reduceLT, Nat.reduceLeDiff, Nat.reduceMul, Nat.reduceSub, reduceCtorEq, tbAIz0, Try.results54, gr, g2, g3, gb, h1, h2, n5, g5, n6, n, n', g6, l6, l7, cond_true, e1, e2, hf]
            exact ret_done (fin _ (by rw [ext]; simp [e3]))
        · simp only [↓rA, rB, Int.reduceLE, Int.reduceLT, Int.reduceToNat, Nat.reduceAdd, Nat.reduceEqDiff, Nat.reduceLT, Nat.reduceLeDiff, Nat.reduceMul, Nat.reduceSub, reduceCtorEq, tbAIz0, Try.results54, gr, g2, g3, gb, h1, h2, n5, g5, n6, n, n', g6, l6, l7, cond_true, e1, e2]
          exact ret_done (fin _ (by rw [ext]; simp [e2]))
      · simp only [↓rA, rB, Int.reduceLE, Int.reduceLT, Int.reduceToNat, Nat.reduceAdd, Nat.reduceEqDiff, Nat.reduceLT, Nat.reduceLeDiff, Nat.reduceMul, Nat.reduceSub, reduceCtorEq, tbAIz0, Try.results54, gr, g2, g3, gb, h1, h2, n5, g5, n6, n, n', g6, l6, l7, cond_true, e1]
        exact ret_done (fin _ (by rw [ext]; simp [e1]))
    · simp only [Nb] at n5 n6
      by_cases e1 : a.tick = b.tick
      · skip
        by_cases e2 : a.n = b.n
        · skip
          by_cases e3 : a.row.id.src = b.row.id.src ∧ a.row.id.seq = b.row.id.seq
          · skip
            by_cases e4 : a.row.table = b.row.table
            · skip
              by_cases e5 : a.row.key = b.row.key
              · skip
                by_cases e6 : a.row.event = b.row.event
                · skip
                  by_cases e7 : a.row.no = b.row.no
                  · skip
                    by_cases e8 : a.row.tick = b.row.tick
                    · skip
                      simp only [↓rA, rB, Int.reduceLE, Int.reduceLT, Int.reduceToNat, Nat.reduceAdd, Nat.reduceEqDiff, Nat.reduceLT, Nat.reduceLeDiff, Nat.reduceMul, Nat.reduceSub, reduceCtorEq, tbAIz0, Try.results54, gr, g2, g3, gb, h1, h2, n5, g5, n6, n, n', g6, l6, l7, cond_true, e1, e2, e3, e4, e5, e6, e7, e8]
                      refine OkF_of _ (equalVals_ok a.row.fields b.row.fields hl) ?_
                      by_cases e9 : a.row.fields = b.row.fields
                      · simp only [↓rA, rB, Int.reduceLE, Int.reduceLT, Int.reduceToNat, Nat.reduceAdd, Nat.reduceEqDiff, Nat.reduceLT, Nat.reduceLeDiff, Nat.reduceMul, Nat.reduceSub, reduceCtorEq, tbAIz0, Try.results54, gr, g2, g3, gb, e9]
                        exact ret_done (fin _ (by rw [ext]; simp [e1, e2, e3, e4, e5, e6, e7, e8, e9]))
                      · simp only [↓rA, rB, Int.reduceLE, Int.reduceLT, Int.reduceToNat, Nat.reduceAdd, Nat.reduceEqDiff, Nat.reduceLT, Nat.reduceLeDiff, Nat.reduceMul, Nat.reduceSub, reduceCtorEq, tbAIz0, Try.results54, gr, g2, g3, gb, e9]
                        exact ret_done (fin _ (by rw [ext]; simp [e9]))
                    · simp only [↓rA, rB, Int.reduceLE, Int.reduceLT, Int.reduceToNat, Nat.reduceAdd, Nat.reduceEqDiff, Nat.reduceLT, Nat.reduceLeDiff, Nat.reduceMul, Nat.reduceSub, reduceCtorEq, tbAIz0, Try.results54, gr, g2, g3, gb, h1, h2, n5, g5, n6, n, n', g6, l6, l7, cond_true, e1, e2, e3, e4, e5, e6, e7, e8]
                      exact ret_done (fin _ (by rw [ext]; simp [e8]))
                  · simp only [↓rA, rB, Int.reduceLE, Int.reduceLT, Int.reduceToNat, Nat.reduceAdd, Nat.reduceEqDiff, Nat.reduceLT, Nat.reduceLeDiff, Nat.reduceMul, Nat.reduceSub, reduceCtorEq, tbAIz0, Try.results54, gr, g2, g3, gb, h1, h2, n5, g5, n6, n, n', g6, l6, l7, cond_true, e1, e2, e3, e4, e5, e6, e7]
                    exact ret_done (fin _ (by rw [ext]; simp [e7]))
                · simp only [↓rA, rB, Int.reduceLE, Int.reduceLT, Int.reduceToNat, Nat.reduceAdd, Nat.reduceEqDiff, Nat.reduceLT, Nat.reduceLeDiff, Nat.reduceMul, Nat.reduceSub, reduceCtorEq, tbAIz0, Try.results54, gr, g2, g3, gb, h1, h2, n5, g5, n6, n, n', g6, l6, l7, cond_true, e1, e2, e3, e4, e5, e6]
                  exact ret_done (fin _ (by rw [ext]; simp [e6]))
              · simp only [↓rA, rB, Int.reduceLE, Int.reduceLT, Int.reduceToNat, Nat.reduceAdd, Nat.reduceEqDiff, Nat.reduceLT, Nat.reduceLeDiff, Nat.reduceMul, Nat.reduceSub, reduceCtorEq, tbAIz0, Try.results54, gr, g2, g3, gb, h1, h2, n5, g5, n6, n, n', g6, l6, l7, cond_true, e1, e2, e3, e4, e5]
                exact ret_done (fin _ (by rw [ext]; simp [e5]))
            · simp only [↓rA, rB, Int.reduceLE, Int.reduceLT, Int.reduceToNat, Nat.reduceAdd, Nat.reduceEqDiff, Nat.reduceLT, Nat.reduceLeDiff, Nat.reduceMul, Nat.reduceSub, reduceCtorEq, tbAIz0, Try.results54, gr, g2, g3, gb, h1, h2, n5, g5, n6, n, n', g6, l6, l7, cond_true, e1, e2, e3, e4]
              exact ret_done (fin _ (by rw [ext]; simp [e4]))
          · have hf : (decide (a.row.id.src = b.row.id.src) && decide (a.row.id.seq = b.row.id.seq)) = false := by
              rw [Bool.eq_false_iff]; simpa using e3
            simp only [↓rA, rB, Int.reduceLE, Int.reduceLT, Int.reduceToNat, Nat.reduceAdd, Nat.reduceEqDiff, Nat.reduceLT, Nat.reduceLeDiff, Nat.reduceMul, Nat.reduceSub, reduceCtorEq, tbAIz0, Try.results54, gr, g2, g3, gb, h1, h2, n5, g5, n6, n, n', g6, l6, l7, cond_true, e1, e2, hf]
            exact ret_done (fin _ (by rw [ext]; simp [e3]))
        · simp only [↓rA, rB, Int.reduceLE, Int.reduceLT, Int.reduceToNat, Nat.reduceAdd, Nat.reduceEqDiff, Nat.reduceLT, Nat.reduceLeDiff, Nat.reduceMul, Nat.reduceSub, reduceCtorEq, tbAIz0, Try.results54, gr, g2, g3, gb, h1, h2, n5, g5, n6, n, n', g6, l6, l7, cond_true, e1, e2]
          exact ret_done (fin _ (by rw [ext]; simp [e2]))
      · simp only [↓rA, rB, Int.reduceLE, Int.reduceLT, Int.reduceToNat, Nat.reduceAdd, Nat.reduceEqDiff, Nat.reduceLT, Nat.reduceLeDiff, Nat.reduceMul, Nat.reduceSub, reduceCtorEq, tbAIz0, Try.results54, gr, g2, g3, gb, h1, h2, n5, g5, n6, n, n', g6, l6, l7, cond_true, e1]
        exact ret_done (fin _ (by rw [ext]; simp [e1]))
end
set_option linter.defProp false in
def tbAIz1 := (And.intro (And.intro (And.intro (And.intro (And.intro (And.intro Ty.sz3 Ty.by3) (And.intro Ty.ag3 Ty.zr3)) (And.intro (And.intro Ty.un3 Ty.sz4) (And.intro Ty.by4 (And.intro Ty.ag4 Ty.zr4)))) (And.intro (And.intro (And.intro Ty.un4 Ty.sz9) (And.intro Ty.by9 (And.intro Ty.ag9 Ty.zr9))) (And.intro (And.intro Ty.un9 Ty.sz41) (And.intro Ty.by41 (And.intro Ty.ag41 Ty.zr41))))) (And.intro (And.intro (And.intro (And.intro Ty.un41 Ty.sz53) (And.intro Ty.by53 (And.intro Ty.ag53 Ty.zr53))) (And.intro (And.intro Ty.fl53_0 Ty.pl53_0) (And.intro Ty.fl53_1 (And.intro Ty.pl53_1 Ty.sz54)))) (And.intro (And.intro (And.intro Ty.by54 Ty.ag54) (And.intro Ty.zr54 (And.intro Ty.un54 Ty.sz56))) (And.intro (And.intro Ty.by56 Ty.ag56) (And.intro Ty.zr56 (And.intro Ty.fl56_0 Ty.pl56_0)))))) (And.intro (And.intro (And.intro (And.intro (And.intro Ty.fl56_1 Ty.pl56_1) (And.intro Ty.fl56_2 Ty.pl56_2)) (And.intro (And.intro Ty.fl56_3 Ty.pl56_3) (And.intro Ty.fl56_4 (And.intro Ty.pl56_4 Ty.fl56_5)))) (And.intro (And.intro (And.intro Ty.pl56_5 Ty.fl56_6) (And.intro Ty.pl56_6 (And.intro Ty.sz61 Ty.by61))) (And.intro (And.intro Ty.ag61 Ty.zr61) (And.intro Ty.fl61_0 (And.intro Ty.pl61_0 Ty.fl61_1))))) (And.intro (And.intro (And.intro (And.intro Ty.pl61_1 Ty.fl61_2) (And.intro Ty.pl61_2 (And.intro Ty.sz85 Ty.by85))) (And.intro (And.intro Ty.ag85 Ty.zr85) (And.intro Ty.sz109 (And.intro Ty.by109 Ty.ag109)))) (And.intro (And.intro (And.intro Ty.zr109 Ty.fl109_0) (And.intro Ty.pl109_0 (And.intro Ty.fl109_1 Ty.pl109_1))) (And.intro (And.intro Ty.fl109_2 Ty.pl109_2) (And.intro Ty.eq53 (And.intro Ty.eq109 Ty.cb54)))))))
theorem equalF_ok (l m : List Dlt) (hl : l.length ≤ big) (hf : ∀ x ∈ l, okF x.row) : OkP Try.prog 52 [vDlts l, vDlts m, .lit (.func (.func 54) #[] #[])] (vbool (decide (l = m))) := by
  refine Ok.of_ex Ty.mixed Try.func52 rfl (by simp [Try.ntmps52]) (by kernel_rfl) fun F w0 I0 => ?_
  unfold big at hl
  by_cases hlen : l.length = m.length
  · simp only [↓rA, rB, Int.reduceLE, Int.reduceLT, Int.reduceToNat, Nat.reduceAdd, Nat.reduceEqDiff, Nat.reduceLT, Nat.reduceLeDiff, Nat.reduceMul, Nat.reduceSub, reduceCtorEq, tbAIz1, Try.results52, List.length_map, hlen]
    refine EX_for Ty.mixed (by kernel_rfl) l.length (fun i S => (∀ j, j < i → l[j]? = m[j]?) ∧ S.σ 1 = vDlts m ∧ S.σ 2 = .lit (.func (.func 54) #[] #[]) ∧ S.σ 15 = vDlts l ∧ S.σ 16 = vint l.length ∧ S.σ 17 = vint i ∧ S.boxes = [] ∧ S.rows = []) ⟨0, by simp, ?_⟩ (fun i S hi ⟨ho, g1, g2, g15, g16, g17, gb, gr⟩ => ?_) (fun S ⟨ho, g1, g2, g15, g16, g17, gb, gr⟩ => ?_)
    · simp only [↓rA, rB, Int.reduceLE, Int.reduceLT, Int.reduceToNat, Nat.reduceAdd, Nat.reduceEqDiff, Nat.reduceLT, Nat.reduceLeDiff, Nat.reduceMul, Nat.reduceSub, reduceCtorEq, tbAIz1, Try.results52, List.length_map, hlen]
    · have hj : i < m.length := by omega
      simp only [↓rA, rB, Int.reduceLE, Int.reduceLT, Int.reduceToNat, Nat.reduceAdd, Nat.reduceEqDiff, Nat.reduceLT, Nat.reduceLeDiff, Nat.reduceMul, Nat.reduceSub, reduceCtorEq, tbAIz1, Try.results52, g1, g2, g15, g16, g17, gb, gr, Int.ofNat_lt, hi, hj, List.length_map, getD_map]
      refine fun b3 h3 => ?_; replace h3 := newb h3; try simp only [Nb] at h3
      simp only [↓rA, rB, Int.reduceLE, Int.reduceLT, Int.reduceToNat, Nat.reduceAdd, Nat.reduceEqDiff, Nat.reduceLT, Nat.reduceLeDiff, Nat.reduceMul, Nat.reduceSub, reduceCtorEq, tbAIz1, Try.results52, g1, g2, g15, g16, g17, gb, gr, h3, Int.ofNat_lt, hi, hj, List.length_map, getD_map]
      refine fun b4 h4 => ?_; replace h4 := newb h4; try simp only [Nb] at h4
      simp only [↓rA, rB, Int.reduceLE, Int.reduceLT, Int.reduceToNat, Nat.reduceAdd, Nat.reduceEqDiff, Nat.reduceLT, Nat.reduceLeDiff, Nat.reduceMul, Nat.reduceSub, reduceCtorEq, tbAIz1, Try.results52, g1, g2, g15, g16, g17, gb, gr, h3, h4, Int.ofNat_lt, hi, hj, List.length_map, getD_map]
      refine OkF_of _ (same54_ok l[i] m[i] (hf _ (List.getElem_mem hi))) ?_
      by_cases he : l[i] = m[i]
      · simp only [↓rA, rB, Int.reduceLE, Int.reduceLT, Int.reduceToNat, Nat.reduceAdd, Nat.reduceEqDiff, Nat.reduceLT, Nat.reduceLeDiff, Nat.reduceMul, Nat.reduceSub, reduceCtorEq, tbAIz1, Try.results52, g1, g2, g15, g16, g17, gb, gr, h3, h4, he, wrap_succ hi (Nat.le_trans hl (by decide))]
        exact ⟨2, sofar hi hj he ho, rfl⟩
      · simp only [↓rA, rB, Int.reduceLE, Int.reduceLT, Int.reduceToNat, Nat.reduceAdd, Nat.reduceEqDiff, Nat.reduceLT, Nat.reduceLeDiff, Nat.reduceMul, Nat.reduceSub, reduceCtorEq, tbAIz1, Try.results52, g1, g2, g15, g16, g17, gb, gr, h3, h4, he]
        exact ret_done (by simp [ne_at hi hj he])
    · simp only [↓rA, rB, Int.reduceLE, Int.reduceLT, Int.reduceToNat, Nat.reduceAdd, Nat.reduceEqDiff, Nat.reduceLT, Nat.reduceLeDiff, Nat.reduceMul, Nat.reduceSub, reduceCtorEq, tbAIz1, Try.results52, g1, g2, g15, g16, g17, gb, gr, Int.ofNat_lt, Nat.lt_irrefl, List.length_map]
      exact ret_done (by simp [ext_take hlen ho])
  · have hi : ¬ ((l.length : Int) = m.length) := by omega
    simp only [↓rA, rB, Int.reduceLE, Int.reduceLT, Int.reduceToNat, Nat.reduceAdd, Nat.reduceEqDiff, Nat.reduceLT, Nat.reduceLeDiff, Nat.reduceMul, Nat.reduceSub, reduceCtorEq, tbAIz1, Try.results52, List.length_map, hi]
    exact ret_done (by rw [decide_eq_false fun e => hlen (by rw [e])])
end Go.Proofs.Ytopfanlkbepemaa

/- Arrangements: contracts of the program: Check. -/
set_option linter.unusedSimpArgs false
set_option maxRecDepth 100000
namespace Go.Proofs.Ytopfanlkbepemaa
open Go.VL Go.Ar Go.Proofs.Ytopfanlkbepemaa

set_option linter.defProp false in
def tbAJz0 := (And.intro (And.intro (And.intro (And.intro (And.intro (And.intro Ty.sz3 (And.intro Ty.by3 Ty.ag3)) (And.intro Ty.zr3 (And.intro Ty.un3 Ty.sz4))) (And.intro (And.intro Ty.by4 (And.intro Ty.ag4 Ty.zr4)) (And.intro (And.intro Ty.un4 Ty.sz9) (And.intro Ty.by9 Ty.ag9)))) (And.intro (And.intro (And.intro Ty.zr9 (And.intro Ty.un9 Ty.sz22)) (And.intro Ty.by22 (And.intro Ty.ag22 Ty.zr22))) (And.intro (And.intro Ty.un22 (And.intro Ty.sz24 Ty.by24)) (And.intro (And.intro Ty.ag24 Ty.zr24) (And.intro Ty.fl24_0 Ty.pl24_0))))) (And.intro (And.intro (And.intro (And.intro Ty.fl24_1 (And.intro Ty.pl24_1 Ty.sz29)) (And.intro Ty.by29 (And.intro Ty.ag29 Ty.zr29))) (And.intro (And.intro Ty.un29 (And.intro Ty.sz41 Ty.by41)) (And.intro (And.intro Ty.ag41 Ty.zr41) (And.intro Ty.un41 Ty.sz53)))) (And.intro (And.intro (And.intro Ty.by53 (And.intro Ty.ag53 Ty.zr53)) (And.intro (And.intro Ty.fl53_0 Ty.pl53_0) (And.intro Ty.fl53_1 Ty.pl53_1))) (And.intro (And.intro Ty.sz54 (And.intro Ty.by54 Ty.ag54)) (And.intro (And.intro Ty.zr54 Ty.un54) (And.intro Ty.sz56 Ty.by56)))))) (And.intro (And.intro (And.intro (And.intro (And.intro Ty.ag56 (And.intro Ty.zr56 Ty.fl56_0)) (And.intro Ty.pl56_0 (And.intro Ty.fl56_1 Ty.pl56_1))) (And.intro (And.intro Ty.fl56_2 (And.intro Ty.pl56_2 Ty.fl56_3)) (And.intro (And.intro Ty.pl56_3 Ty.fl56_4) (And.intro Ty.pl56_4 Ty.fl56_5)))) (And.intro (And.intro (And.intro Ty.pl56_5 (And.intro Ty.fl56_6 Ty.pl56_6)) (And.intro Ty.sz61 (And.intro Ty.by61 Ty.ag61))) (And.intro (And.intro Ty.zr61 (And.intro Ty.fl61_0 Ty.pl61_0)) (And.intro (And.intro Ty.fl61_1 Ty.pl61_1) (And.intro Ty.fl61_2 Ty.pl61_2))))) (And.intro (And.intro (And.intro (And.intro Ty.sz65 (And.intro Ty.by65 Ty.ag65)) (And.intro Ty.zr65 (And.intro Ty.fl65_0 Ty.pl65_0))) (And.intro (And.intro Ty.fl65_1 (And.intro Ty.pl65_1 Ty.sz85)) (And.intro (And.intro Ty.by85 Ty.ag85) (And.intro Ty.zr85 Ty.sz109)))) (And.intro (And.intro (And.intro Ty.by109 (And.intro Ty.ag109 Ty.zr109)) (And.intro (And.intro Ty.fl109_0 Ty.pl109_0) (And.intro Ty.fl109_1 Ty.pl109_1))) (And.intro (And.intro Ty.fl109_2 (And.intro Ty.pl109_2 Ty.eq53)) (And.intro (And.intro Ty.eq109 Ty.cb52) (And.intro Ty.cb53 Ty.cb54)))))))
set_option maxHeartbeats 2000000 in
theorem check27_ok (a : Arr) (ha : fitA a) : OkP Try.prog 27 [vArr a] (vint (checkM a)) := by
  obtain ⟨s, l⟩ := a
  obtain ⟨hl, hds⟩ := ha.fitG
  simp only at hl hds
  unfold big at hl
  refine Ok.of_ex Ty.mixed Try.func27 rfl (by simp [Try.ntmps27]) (by kernel_rfl) fun F w0 I0 => ?_
  simp only [↓rA, rB, Int.reduceLE, Int.reduceLT, Int.reduceToNat, Nat.reduceAdd, Nat.reduceEqDiff, Nat.reduceLT, Nat.reduceLeDiff, Nat.reduceMul, Nat.reduceSub, reduceCtorEq, tbAJz0, Try.results27]
  refine fun b1 h1 => ?_; replace h1 := newb h1; try simp only [Nb] at h1
  by_cases c1 : s < 0
  · simp only [↓rA, rB, Int.reduceLE, Int.reduceLT, Int.reduceToNat, Nat.reduceAdd, Nat.reduceEqDiff, Nat.reduceLT, Nat.reduceLeDiff, Nat.reduceMul, Nat.reduceSub, reduceCtorEq, tbAJz0, Try.results27, h1, c1]
    exact ret_done (by rw [check_since (.inl c1)])
  by_cases c2 : maxT < s
  · simp only [↓rA, rB, Int.reduceLE, Int.reduceLT, Int.reduceToNat, Nat.reduceAdd, Nat.reduceEqDiff, Nat.reduceLT, Nat.reduceLeDiff, Nat.reduceMul, Nat.reduceSub, reduceCtorEq, tbAJz0, Try.results27, h1, c1, c2]
    exact ret_done (by rw [check_since (.inr c2)])
  simp only [↓rA, rB, Int.reduceLE, Int.reduceLT, Int.reduceToNat, Nat.reduceAdd, Nat.reduceEqDiff, Nat.reduceLT, Nat.reduceLeDiff, Nat.reduceMul, Nat.reduceSub, reduceCtorEq, tbAJz0, Try.results27, h1, c1, c2, List.length_map]
  refine EX_for Ty.mixed (by kernel_rfl) l.length (fun i S => okGsB s none l = okGsB s (prevK l i) (l.drop i) ∧ S.σ 1 = ptr b1 ∧ S.σ 2 = vint 0 ∧ S.σ 16 = vGrps l ∧ S.σ 17 = vint l.length ∧ S.σ 18 = vint i ∧ S.boxes = [(b1, .c (cArr ⟨s, l⟩))] ∧ S.rows = []) ⟨0, rfl, ?_⟩ (fun i S hi ⟨hgo, g1, g2, g16, g17, g18, gb, gr⟩ => ?_) (fun S ⟨hgo, g1, g2, g16, g17, g18, gb, gr⟩ => ?_)
  · simp only [↓rA, rB, Int.reduceLE, Int.reduceLT, Int.reduceToNat, Nat.reduceAdd, Nat.reduceEqDiff, Nat.reduceLT, Nat.reduceLeDiff, Nat.reduceMul, Nat.reduceSub, reduceCtorEq, tbAJz0, Try.results27, h1, List.length_map]
  · rw [okGs_step s l i hi] at hgo
    have hdf := hds _ (List.getElem_mem hi)
    generalize hg : l[i] = g at hgo hdf
    have hlen := hdf.1
    unfold big at hlen
    have bad : okG s (prevK l i) g = false → checkM ⟨s, l⟩ = 1 := fun h => check_no (by rw [hgo, h, Bool.false_and])
    simp only [↓rA, rB, Int.reduceLE, Int.reduceLT, Int.reduceToNat, Nat.reduceAdd, Nat.reduceEqDiff, Nat.reduceLT, Nat.reduceLeDiff, Nat.reduceMul, Nat.reduceSub, reduceCtorEq, tbAJz0, Try.results27, g1, g2, g16, g17, g18, gb, gr, h1, Int.ofNat_lt, hi, List.length_map, getD_map, hg]
    refine fun b4 h4 => ?_; replace h4 := newb h4; try simp only [Nb] at h4
    by_cases e0 : g.ds = []
    · have e0' : ((g.ds.length : Int) = 0) := by rw [e0]; rfl
      simp only [↓rA, rB, Int.reduceLE, Int.reduceLT, Int.reduceToNat, Nat.reduceAdd, Nat.reduceEqDiff, Nat.reduceLT, Nat.reduceLeDiff, Nat.reduceMul, Nat.reduceSub, reduceCtorEq, tbAJz0, Try.results27, g1, g2, g16, g17, g18, gb, gr, h1, h4, e0', List.length_map]
      exact ret_done (by rw [bad (okG_nil e0)])
    have e0' : ¬ ((g.ds.length : Int) = 0) := fun h => e0 (List.eq_nil_of_length_eq_zero (by omega))
    cases i with
    | zero =>
      have hpk : ∀ k, prevK l 0 = some k → less k g.key = true := fun k h => by cases h
      simp only [↓rA, rB, Int.reduceLE, Int.reduceLT, Int.reduceToNat, Nat.reduceAdd, Nat.reduceEqDiff, Nat.reduceLT, Nat.reduceLeDiff, Nat.reduceMul, Nat.reduceSub, reduceCtorEq, tbAJz0, Try.results27, g1, g2, g16, g17, g18, gb, gr, h1, h4, e0', List.length_map, Int.lt_irrefl]
      refine CallV_of _ (cons_ok g.ds hdf).v ?_
      simp only [↓rA, rB, Int.reduceLE, Int.reduceLT, Int.reduceToNat, Nat.reduceAdd, Nat.reduceEqDiff, Nat.reduceLT, Nat.reduceLeDiff, Nat.reduceMul, Nat.reduceSub, reduceCtorEq, tbAJz0, Try.results27, g1, g2, g16, g17, g18, gb, gr, h1, h4, e0', List.length_map]
      refine CallV_of _ (equalF_ok g.ds (consM g.ds) (Nat.le_trans hlen (by decide)) hdf.okF).v ?_
      by_cases e4 : g.ds = consM g.ds
      · have e4' := decide_eq_true e4
        rw [e4']
        simp only [↓rA, rB, Int.reduceLE, Int.reduceLT, Int.reduceToNat, Nat.reduceAdd, Nat.reduceEqDiff, Nat.reduceLT, Nat.reduceLeDiff, Nat.reduceMul, Nat.reduceSub, reduceCtorEq, tbAJz0, Try.results27, g1, g2, g16, g17, g18, gb, gr, h1, h4, List.length_map]
        have hyes : (∀ x ∈ g.ds, x.row.key = g.key ∧ s ≤ x.tick) → okGsB s none l = okGsB s (prevK l (0 + 1)) (l.drop (0 + 1)) := fun h3 => by
          rw [hgo, okG_yes e0 hpk h3 e4, Bool.true_and]
        refine EX_forS Ty.mixed (by kernel_rfl) g.ds.length (fun k S => (∀ k', (h : k' < g.ds.length) → k' < k → g.ds[k'].row.key = g.key ∧ s ≤ g.ds[k'].tick) ∧ S.σ 1 = ptr b1 ∧ S.σ 2 = vint 0 ∧ S.σ 16 = vGrps l ∧ S.σ 17 = vint l.length ∧ S.σ 18 = vint ((0 : Nat) : Int) ∧ S.σ 4 = ptr b4 ∧ S.σ 53 = vDlts g.ds ∧ S.σ 54 = vint g.ds.length ∧ S.σ 55 = vint k ∧ S.boxes = [(b4, .c (cGrp g)), (b1, .c (cArr ⟨s, l⟩))] ∧ S.rows = []) ⟨_, _, List.Sublist.refl _, List.Sublist.refl _, fun k' h hk' => absurd hk' (Nat.not_lt_zero _), ?_⟩ (fun k S hk ⟨ho, g1, g2, g16, g17, g18, g4, g53, g54, g55, gb, gr⟩ => ?_) (fun S ⟨ho, g1, g2, g16, g17, g18, g4, g53, g54, g55, gb, gr⟩ => ?_)
        · simp only [↓rA, rB, Int.reduceLE, Int.reduceLT, Int.reduceToNat, Nat.reduceAdd, Nat.reduceEqDiff, Nat.reduceLT, Nat.reduceLeDiff, Nat.reduceMul, Nat.reduceSub, reduceCtorEq, tbAJz0, Try.results27, g1, g2, g16, g17, g18, gb, gr, h1, h4, List.length_map]
          try exact ⟨trivial, trivial⟩
        · simp only [↓rA, rB, Int.reduceLE, Int.reduceLT, Int.reduceToNat, Nat.reduceAdd, Nat.reduceEqDiff, Nat.reduceLT, Nat.reduceLeDiff, Nat.reduceMul, Nat.reduceSub, reduceCtorEq, tbAJz0, Try.results27, g1, g2, g16, g17, g18, g4, g53, g54, g55, gb, gr, h1, h4, Int.ofNat_lt, hk, List.length_map, getD_map]
          refine fun b6 h6 => ?_; replace h6 := newb h6; try simp only [Nb] at h6
          by_cases k1 : g.ds[k].row.key = g.key
          · by_cases k2 : g.ds[k].tick < s
            · simp only [↓rA, rB, Int.reduceLE, Int.reduceLT, Int.reduceToNat, Nat.reduceAdd, Nat.reduceEqDiff, Nat.reduceLT, Nat.reduceLeDiff, Nat.reduceMul, Nat.reduceSub, reduceCtorEq, tbAJz0, Try.results27, g1, g2, g16, g17, g18, g4, g53, g54, g55, gb, gr, h1, h4, h6, Int.ofNat_lt, hk, List.length_map, getD_map, k1, k2]
              exact ret_done (by rw [bad (okG_all (List.getElem_mem hk) (.inr k2))])
            · simp only [↓rA, rB, Int.reduceLE, Int.reduceLT, Int.reduceToNat, Nat.reduceAdd, Nat.reduceEqDiff, Nat.reduceLT, Nat.reduceLeDiff, Nat.reduceMul, Nat.reduceSub, reduceCtorEq, tbAJz0, Try.results27, g1, g2, g16, g17, g18, g4, g53, g54, g55, gb, gr, h1, h4, h6, Int.ofNat_lt, hk, List.length_map, getD_map, k1, k2, wrap_succ hk (Nat.le_trans hlen (by decide))]
              refine ⟨_, _, List.sublist_cons_self _ _, List.Sublist.refl _, fun k' h hk' => ?_, ?_⟩
              · by_cases e : k' = k
                · subst e; exact ⟨k1, by omega⟩
                · exact ho k' h (by omega)
              · simp only [↓rA, rB, Int.reduceLE, Int.reduceLT, Int.reduceToNat, Nat.reduceAdd, Nat.reduceEqDiff, Nat.reduceLT, Nat.reduceLeDiff, Nat.reduceMul, Nat.reduceSub, reduceCtorEq, tbAJz0, Try.results27, g1, g2, g16, g17, g18, g4, g53, g54, g55, gb, gr, h1, h4, h6, wrap_succ hk (Nat.le_trans hlen (by decide))]
                try exact ⟨trivial, trivial⟩
          · simp only [↓rA, rB, Int.reduceLE, Int.reduceLT, Int.reduceToNat, Nat.reduceAdd, Nat.reduceEqDiff, Nat.reduceLT, Nat.reduceLeDiff, Nat.reduceMul, Nat.reduceSub, reduceCtorEq, tbAJz0, Try.results27, g1, g2, g16, g17, g18, g4, g53, g54, g55, gb, gr, h1, h4, h6, Int.ofNat_lt, hk, List.length_map, getD_map, k1]
            exact ret_done (by rw [bad (okG_all (List.getElem_mem hk) (.inl k1))])
        · have hall : ∀ x ∈ g.ds, x.row.key = g.key ∧ s ≤ x.tick := fun x hx => by
            obtain ⟨k', h, rfl⟩ := List.getElem_of_mem hx
            exact ho k' h h
          simp only [↓rA, rB, Int.reduceLE, Int.reduceLT, Int.reduceToNat, Nat.reduceAdd, Nat.reduceEqDiff, Nat.reduceLT, Nat.reduceLeDiff, Nat.reduceMul, Nat.reduceSub, reduceCtorEq, tbAJz0, Try.results27, g1, g2, g16, g17, g18, g4, g53, g54, g55, gb, gr, h1, h4, Int.ofNat_lt, Nat.lt_irrefl, List.length_map, wrap_succ hi (Nat.le_trans hl (by decide))]
          first | exact ⟨1, hyes hall, rfl, rfl⟩ | exact ⟨1, hyes hall, rfl⟩
      · have e4' := decide_eq_false e4
        rw [e4']
        simp only [↓rA, rB, Int.reduceLE, Int.reduceLT, Int.reduceToNat, Nat.reduceAdd, Nat.reduceEqDiff, Nat.reduceLT, Nat.reduceLeDiff, Nat.reduceMul, Nat.reduceSub, reduceCtorEq, tbAJz0, Try.results27, g1, g2, g16, g17, g18, gb, gr, h1, h4]
        exact ret_done (by rw [bad (okG_cons e4)])
    | succ j =>
      have hj : j < l.length := by omega
      have w1 := wrap_pred j (by omega)
      have hprev : prevK l (j + 1) = some l[j].key := prevK_succ l j hj
      by_cases hp : less l[j].key g.key = true
      · have hpk : ∀ k, prevK l (j + 1) = some k → less k g.key = true := fun k h => by rw [hprev] at h; cases h; exact hp
        have p1 : Op.bytesLess g.key.data.toList l[j].key.data.toList = false := less_asymm hp
        have p2 : ¬ g.key = l[j].key := fun e => less_ne hp e.symm
        simp only [↓rA, rB, Int.reduceLE, Int.reduceLT, Int.reduceToNat, Nat.reduceAdd, Nat.reduceEqDiff, Nat.reduceLT, Nat.reduceLeDiff, Nat.reduceMul, Nat.reduceSub, reduceCtorEq, tbAJz0, Try.results27, g1, g2, g16, g17, g18, gb, gr, h1, h4, e0', List.length_map, w1, Int.ofNat_lt, hj, getD_map, p1, p2]
        refine CallV_of _ (cons_ok g.ds hdf).v ?_
        simp only [↓rA, rB, Int.reduceLE, Int.reduceLT, Int.reduceToNat, Nat.reduceAdd, Nat.reduceEqDiff, Nat.reduceLT, Nat.reduceLeDiff, Nat.reduceMul, Nat.reduceSub, reduceCtorEq, tbAJz0, Try.results27, g1, g2, g16, g17, g18, gb, gr, h1, h4, e0', List.length_map]
        refine CallV_of _ (equalF_ok g.ds (consM g.ds) (Nat.le_trans hlen (by decide)) hdf.okF).v ?_
        by_cases e4 : g.ds = consM g.ds
        · have e4' := decide_eq_true e4
          rw [e4']
          simp only [↓rA, rB, Int.reduceLE, Int.reduceLT, Int.reduceToNat, Nat.reduceAdd, Nat.reduceEqDiff, Nat.reduceLT, Nat.reduceLeDiff, Nat.reduceMul, Nat.reduceSub, reduceCtorEq, tbAJz0, Try.results27, g1, g2, g16, g17, g18, gb, gr, h1, h4, List.length_map]
          have hyes : (∀ x ∈ g.ds, x.row.key = g.key ∧ s ≤ x.tick) → okGsB s none l = okGsB s (prevK l (j + 1 + 1)) (l.drop (j + 1 + 1)) := fun h3 => by
            rw [hgo, okG_yes e0 hpk h3 e4, Bool.true_and]
          refine EX_forS Ty.mixed (by kernel_rfl) g.ds.length (fun k S => (∀ k', (h : k' < g.ds.length) → k' < k → g.ds[k'].row.key = g.key ∧ s ≤ g.ds[k'].tick) ∧ S.σ 1 = ptr b1 ∧ S.σ 2 = vint 0 ∧ S.σ 16 = vGrps l ∧ S.σ 17 = vint l.length ∧ S.σ 18 = vint ((j + 1 : Nat) : Int) ∧ S.σ 4 = ptr b4 ∧ S.σ 53 = vDlts g.ds ∧ S.σ 54 = vint g.ds.length ∧ S.σ 55 = vint k ∧ S.boxes = [(b4, .c (cGrp g)), (b1, .c (cArr ⟨s, l⟩))] ∧ S.rows = []) ⟨_, _, List.Sublist.refl _, List.Sublist.refl _, fun k' h hk' => absurd hk' (Nat.not_lt_zero _), ?_⟩ (fun k S hk ⟨ho, g1, g2, g16, g17, g18, g4, g53, g54, g55, gb, gr⟩ => ?_) (fun S ⟨ho, g1, g2, g16, g17, g18, g4, g53, g54, g55, gb, gr⟩ => ?_)
          · simp only [↓rA, rB, Int.reduceLE, Int.reduceLT, Int.reduceToNat, Nat.reduceAdd, Nat.reduceEqDiff, Nat.reduceLT, Nat.reduceLeDiff, Nat.reduceMul, Nat.reduceSub, reduceCtorEq, tbAJz0, Try.results27, g1, g2, g16, g17, g18, gb, gr, h1, h4, List.length_map]
            try exact ⟨trivial, trivial⟩
          · simp only [↓rA, rB, Int.reduceLE, Int.reduceLT, Int.reduceToNat, Nat.reduceAdd, Nat.reduceEqDiff, Nat.reduceLT, Nat.reduceLeDiff, Nat.reduceMul, Nat.reduceSub, reduceCtorEq, tbAJz0, Try.results27, g1, g2, g16, g17, g18, g4, g53, g54, g55, gb, gr, h1, h4, Int.ofNat_lt, hk, List.length_map, getD_map]
            refine fun b6 h6 => ?_; replace h6 := newb h6; try simp only [Nb] at h6
            by_cases k1 : g.ds[k].row.key = g.key
            · by_cases k2 : g.ds[k].tick < s
              · simp only [↓rA, rB, Int.reduceLE, Int.reduceLT, Int.reduceToNat, Nat.reduceAdd, Nat.reduceEqDiff, Nat.reduceLT, Nat.reduceLeDiff, Nat.reduceMul, Nat.reduceSub, reduceCtorEq, tbAJz0, Try.results27, g1, g2, g16, g17, g18, g4, g53, g54, g55, gb, gr, h1, h4, h6, Int.ofNat_lt, hk, List.length_map, getD_map, k1, k2]
                exact ret_done (by rw [bad (okG_all (List.getElem_mem hk) (.inr k2))])
              · simp only [↓rA, rB, Int.reduceLE, Int.reduceLT, Int.reduceToNat, Nat.reduceAdd, Nat.reduceEqDiff, Nat.reduceLT, Nat.reduceLeDiff, Nat.reduceMul, Nat.reduceSub, reduceCtorEq, tbAJz0, Try.results27, g1, g2, g16, g17, g18, g4, g53, g54, g55, gb, gr, h1, h4, h6, Int.ofNat_lt, hk, List.length_map, getD_map, k1, k2, wrap_succ hk (Nat.le_trans hlen (by decide))]
                refine ⟨_, _, List.sublist_cons_self _ _, List.Sublist.refl _, fun k' h hk' => ?_, ?_⟩
                · by_cases e : k' = k
                  · subst e; exact ⟨k1, by omega⟩
                  · exact ho k' h (by omega)
                · simp only [↓rA, rB, Int.reduceLE, Int.reduceLT, Int.reduceToNat, Nat.reduceAdd, Nat.reduceEqDiff, Nat.reduceLT, Nat.reduceLeDiff, Nat.reduceMul, Nat.reduceSub, reduceCtorEq, tbAJz0, Try.results27, g1, g2, g16, g17, g18, g4, g53, g54, g55, gb, gr, h1, h4, h6, wrap_succ hk (Nat.le_trans hlen (by decide))]
                  try exact ⟨trivial, trivial⟩
            · simp only [↓rA, rB, Int.reduceLE, Int.reduceLT, Int.reduceToNat, Nat.reduceAdd, Nat.reduceEqDiff, Nat.reduceLT, Nat.reduceLeDiff, Nat.reduceMul, Nat.reduceSub, reduceCtorEq, tbAJz0, Try.results27, g1, g2, g16, g17, g18, g4, g53, g54, g55, gb, gr, h1, h4, h6, Int.ofNat_lt, hk, List.length_map, getD_map, k1]
              exact ret_done (by rw [bad (okG_all (List.getElem_mem hk) (.inl k1))])
          · have hall : ∀ x ∈ g.ds, x.row.key = g.key ∧ s ≤ x.tick := fun x hx => by
              obtain ⟨k', h, rfl⟩ := List.getElem_of_mem hx
              exact ho k' h h
            simp only [↓rA, rB, Int.reduceLE, Int.reduceLT, Int.reduceToNat, Nat.reduceAdd, Nat.reduceEqDiff, Nat.reduceLT, Nat.reduceLeDiff, Nat.reduceMul, Nat.reduceSub, reduceCtorEq, tbAJz0, Try.results27, g1, g2, g16, g17, g18, g4, g53, g54, g55, gb, gr, h1, h4, Int.ofNat_lt, Nat.lt_irrefl, List.length_map, wrap_succ hi (Nat.le_trans hl (by decide))]
            first | exact ⟨1, hyes hall, rfl, rfl⟩ | exact ⟨1, hyes hall, rfl⟩
        · have e4' := decide_eq_false e4
          rw [e4']
          simp only [↓rA, rB, Int.reduceLE, Int.reduceLT, Int.reduceToNat, Nat.reduceAdd, Nat.reduceEqDiff, Nat.reduceLT, Nat.reduceLeDiff, Nat.reduceMul, Nat.reduceSub, reduceCtorEq, tbAJz0, Try.results27, g1, g2, g16, g17, g18, gb, gr, h1, h4]
          exact ret_done (by rw [bad (okG_cons e4)])
      · have hp' : less l[j].key g.key = false := by simpa using hp
        have hb := bad (by rw [hprev]; exact okG_prev hp')
        by_cases p2 : g.key = l[j].key
        · have p1 : Op.bytesLess l[j].key.data.toList l[j].key.data.toList = false := bytesLess_irrefl _
          simp only [↓rA, rB, Int.reduceLE, Int.reduceLT, Int.reduceToNat, Nat.reduceAdd, Nat.reduceEqDiff, Nat.reduceLT, Nat.reduceLeDiff, Nat.reduceMul, Nat.reduceSub, reduceCtorEq, tbAJz0, Try.results27, g1, g2, g16, g17, g18, gb, gr, h1, h4, e0', List.length_map, w1, Int.ofNat_lt, hj, getD_map, p1, p2]
          exact ret_done (by rw [hb])
        · have p1 : Op.bytesLess g.key.data.toList l[j].key.data.toList = true := less_total hp' fun e => p2 e.symm
          simp only [↓rA, rB, Int.reduceLE, Int.reduceLT, Int.reduceToNat, Nat.reduceAdd, Nat.reduceEqDiff, Nat.reduceLT, Nat.reduceLeDiff, Nat.reduceMul, Nat.reduceSub, reduceCtorEq, tbAJz0, Try.results27, g1, g2, g16, g17, g18, gb, gr, h1, h4, e0', List.length_map, w1, Int.ofNat_lt, hj, getD_map, p1, p2]
          exact ret_done (by rw [hb])
  · simp only [↓rA, rB, Int.reduceLE, Int.reduceLT, Int.reduceToNat, Nat.reduceAdd, Nat.reduceEqDiff, Nat.reduceLT, Nat.reduceLeDiff, Nat.reduceMul, Nat.reduceSub, reduceCtorEq, tbAJz0, Try.results27, g1, g2, g16, g17, g18, gb, gr, h1, Int.ofNat_lt, Nat.lt_irrefl, List.length_map]
    have : okGsB s none l = true := by rw [hgo, List.drop_of_length_le (Nat.le_refl _)]; rfl
    exact ret_done (by rw [check_yes c1 c2 this])
end Go.Proofs.Ytopfanlkbepemaa

/- Arrangements: contracts of the program: Rows. -/
set_option linter.unusedSimpArgs false
set_option maxRecDepth 100000
namespace Go.Proofs.Ytopfanlkbepemaa
open Go.VL Go.Ar Go.Proofs.Ytopfanlkbepemaa
-- @call 60
-- @call 58

set_option linter.defProp false in
def tbAIb0 := (And.intro (And.intro (And.intro (And.intro (And.intro (And.intro Ty.sz3 Ty.by3) (And.intro Ty.ag3 (And.intro Ty.zr3 Ty.un3))) (And.intro (And.intro Ty.sz4 (And.intro Ty.by4 Ty.ag4)) (And.intro Ty.zr4 (And.intro Ty.un4 Ty.sz9)))) (And.intro (And.intro (And.intro Ty.by9 Ty.ag9) (And.intro Ty.zr9 (And.intro Ty.un9 Ty.sz22))) (And.intro (And.intro Ty.by22 (And.intro Ty.ag22 Ty.zr22)) (And.intro Ty.un22 (And.intro Ty.sz41 Ty.by41))))) (And.intro (And.intro (And.intro (And.intro Ty.ag41 Ty.zr41) (And.intro Ty.un41 (And.intro Ty.sz53 Ty.by53))) (And.intro (And.intro Ty.ag53 (And.intro Ty.zr53 Ty.fl53_0)) (And.intro Ty.pl53_0 (And.intro Ty.fl53_1 Ty.pl53_1)))) (And.intro (And.intro (And.intro Ty.sz54 Ty.by54) (And.intro Ty.ag54 (And.intro Ty.zr54 Ty.un54))) (And.intro (And.intro Ty.sz56 (And.intro Ty.by56 Ty.ag56)) (And.intro Ty.zr56 (And.intro Ty.fl56_0 Ty.pl56_0)))))) (And.intro (And.intro (And.intro (And.intro (And.intro Ty.fl56_1 Ty.pl56_1) (And.intro Ty.fl56_2 (And.intro Ty.pl56_2 Ty.fl56_3))) (And.intro (And.intro Ty.pl56_3 (And.intro Ty.fl56_4 Ty.pl56_4)) (And.intro Ty.fl56_5 (And.intro Ty.pl56_5 Ty.fl56_6)))) (And.intro (And.intro (And.intro Ty.pl56_6 Ty.sz61) (And.intro Ty.by61 (And.intro Ty.ag61 Ty.zr61))) (And.intro (And.intro Ty.fl61_0 (And.intro Ty.pl61_0 Ty.fl61_1)) (And.intro Ty.pl61_1 (And.intro Ty.fl61_2 Ty.pl61_2))))) (And.intro (And.intro (And.intro (And.intro Ty.sz65 Ty.by65) (And.intro Ty.ag65 (And.intro Ty.zr65 Ty.fl65_0))) (And.intro (And.intro Ty.pl65_0 (And.intro Ty.fl65_1 Ty.pl65_1)) (And.intro Ty.sz109 (And.intro Ty.by109 Ty.ag109)))) (And.intro (And.intro (And.intro Ty.zr109 Ty.fl109_0) (And.intro Ty.pl109_0 (And.intro Ty.fl109_1 Ty.pl109_1))) (And.intro (And.intro Ty.fl109_2 (And.intro Ty.pl109_2 Ty.eq53)) (And.intro Ty.eq109 (And.intro Ty.cb58 Ty.cb60)))))))
theorem cloneG_ok (gs : List Grp) (hd : gs.length ≤ big) : Ok Try.prog 57 [vGrps gs] [] fun v bs rs => bs = [] ∧ ((gs = [] ∧ v = nilS ∧ rs = []) ∨ ∃ y, v = .list (some y) 2 (gs.map cGrp) ∧ rs = [⟨y, 2, 65⟩]) := by
  unfold big at hd
  match gs, hd with
  | [], _ =>
    refine Ok.list0 (fun c => ?_) fun p c => ?_
    · refine Ok.of_ex Ty.mixed Try.func57 rfl (by simp [Try.ntmps57]) (by kernel_rfl) fun F w0 I0 => ?_
      simp only [↓rA, rB, Int.reduceLE, Int.reduceLT, Int.reduceToNat, Nat.reduceAdd, Nat.reduceEqDiff, Nat.reduceLT, Nat.reduceLeDiff, Nat.reduceMul, Nat.reduceSub, reduceCtorEq, tbAIb0, Try.results57]
      exact ⟨_, [], [], Le.refl _, List.nil_sublist _, List.nil_sublist _, rfl, .inl ⟨rfl, rfl⟩⟩
    · refine Ok.of_ex Ty.mixed Try.func57 rfl (by simp [Try.ntmps57]) (by kernel_rfl) fun F w0 I0 => ?_
      simp only [↓rA, rB, Int.reduceLE, Int.reduceLT, Int.reduceToNat, Nat.reduceAdd, Nat.reduceEqDiff, Nat.reduceLT, Nat.reduceLeDiff, Nat.reduceMul, Nat.reduceSub, reduceCtorEq, tbAIb0, Try.results57]
      refine Or2.l ?_
      simp only [↓rA, rB, Int.reduceLE, Int.reduceLT, Int.reduceToNat, Nat.reduceAdd, Nat.reduceEqDiff, Nat.reduceLT, Nat.reduceLeDiff, Nat.reduceMul, Nat.reduceSub, reduceCtorEq, tbAIb0, Try.results57]
      refine fun y y2 => ?_
      exact ⟨_, [], [_], Le.refl _, List.nil_sublist _, List.Sublist.refl _, rfl, .inr ⟨y2, rfl, rfl⟩⟩
  | x :: d, hd =>
    refine Ok.of_ex Ty.mixed Try.func57 rfl (by simp [Try.ntmps57]) (by kernel_rfl) fun F w0 I0 => ?_
    simp only [↓rA, rB, Int.reduceLE, Int.reduceLT, Int.reduceToNat, Nat.reduceAdd, Nat.reduceEqDiff, Nat.reduceLT, Nat.reduceLeDiff, Nat.reduceMul, Nat.reduceSub, reduceCtorEq, tbAIb0, Try.results57]
    refine Or2.l ?_
    simp only [↓rA, rB, Int.reduceLE, Int.reduceLT, Int.reduceToNat, Nat.reduceAdd, Nat.reduceEqDiff, Nat.reduceLT, Nat.reduceLeDiff, Nat.reduceMul, Nat.reduceSub, reduceCtorEq, tbAIb0, Try.results57]
    refine fun y => ?_
    simp only [↓rA, rB, Int.reduceLE, Int.reduceLT, Int.reduceToNat, Nat.reduceAdd, Nat.reduceEqDiff, Nat.reduceLT, Nat.reduceLeDiff, Nat.reduceMul, Nat.reduceSub, reduceCtorEq, tbAIb0, Try.results57, List.length_map]
    refine ⟨by simp only [List.length_cons, List.length_map] at hd ⊢; omega, fun y2 => ?_⟩
    exact ⟨_, [], [_], Le.refl _, List.nil_sublist _, List.Sublist.refl _, rfl, y2, rfl, rfl⟩
set_option linter.defProp false in
def tbAIb1 := (And.intro (And.intro (And.intro (And.intro (And.intro (And.intro Ty.sz3 (And.intro Ty.by3 Ty.ag3)) (And.intro Ty.zr3 (And.intro Ty.un3 Ty.sz9))) (And.intro (And.intro Ty.by9 (And.intro Ty.ag9 Ty.zr9)) (And.intro Ty.un9 (And.intro Ty.sz22 Ty.by22)))) (And.intro (And.intro (And.intro Ty.ag22 (And.intro Ty.zr22 Ty.un22)) (And.intro Ty.sz41 (And.intro Ty.by41 Ty.ag41))) (And.intro (And.intro Ty.zr41 (And.intro Ty.un41 Ty.sz53)) (And.intro (And.intro Ty.by53 Ty.ag53) (And.intro Ty.zr53 Ty.fl53_0))))) (And.intro (And.intro (And.intro (And.intro Ty.pl53_0 (And.intro Ty.fl53_1 Ty.pl53_1)) (And.intro Ty.sz54 (And.intro Ty.by54 Ty.ag54))) (And.intro (And.intro Ty.zr54 (And.intro Ty.un54 Ty.sz56)) (And.intro Ty.by56 (And.intro Ty.ag56 Ty.zr56)))) (And.intro (And.intro (And.intro Ty.fl56_0 (And.intro Ty.pl56_0 Ty.fl56_1)) (And.intro Ty.pl56_1 (And.intro Ty.fl56_2 Ty.pl56_2))) (And.intro (And.intro Ty.fl56_3 (And.intro Ty.pl56_3 Ty.fl56_4)) (And.intro (And.intro Ty.pl56_4 Ty.fl56_5) (And.intro Ty.pl56_5 Ty.fl56_6)))))) (And.intro (And.intro (And.intro (And.intro (And.intro Ty.pl56_6 (And.intro Ty.sz61 Ty.by61)) (And.intro Ty.ag61 (And.intro Ty.zr61 Ty.fl61_0))) (And.intro (And.intro Ty.pl61_0 (And.intro Ty.fl61_1 Ty.pl61_1)) (And.intro Ty.fl61_2 (And.intro Ty.pl61_2 Ty.sz65)))) (And.intro (And.intro (And.intro Ty.by65 (And.intro Ty.ag65 Ty.zr65)) (And.intro Ty.fl65_0 (And.intro Ty.pl65_0 Ty.fl65_1))) (And.intro (And.intro Ty.pl65_1 (And.intro Ty.sz68 Ty.by68)) (And.intro (And.intro Ty.ag68 Ty.zr68) (And.intro Ty.un68 Ty.sz73))))) (And.intro (And.intro (And.intro (And.intro Ty.by73 (And.intro Ty.ag73 Ty.zr73)) (And.intro Ty.sz75 (And.intro Ty.by75 Ty.ag75))) (And.intro (And.intro Ty.zr75 (And.intro Ty.fl75_0 Ty.pl75_0)) (And.intro (And.intro Ty.fl75_1 Ty.pl75_1) (And.intro Ty.sz109 Ty.by109)))) (And.intro (And.intro (And.intro Ty.ag109 (And.intro Ty.zr109 Ty.fl109_0)) (And.intro Ty.pl109_0 (And.intro Ty.fl109_1 Ty.pl109_1))) (And.intro (And.intro Ty.fl109_2 (And.intro Ty.pl109_2 Ty.eq53)) (And.intro (And.intro Ty.eq109 Ty.cb57) (And.intro Ty.cb58 Ty.cb60)))))))
theorem groupsL_ok (gs : List Grp) (hd : gs.length ≤ big) : Ok Try.prog 36 [vGrps gs] [] fun v bs rs => ∃ b, v = ptr b ∧ ((gs = [] ∧ bs = [(b, .c [nilS, keyFn])] ∧ rs = []) ∨ ∃ y, bs = [(b, .c [.list (some y) 2 (gs.map cGrp), keyFn])] ∧ rs = [⟨y, 2, 65⟩]) := by
  refine Ok.of_ex Ty.mixed Try.func36 rfl (by simp [Try.ntmps36]) (by kernel_rfl) fun F w0 I0 => ?_
  simp only [↓rA, rB, Int.reduceLE, Int.reduceLT, Int.reduceToNat, Nat.reduceAdd, Nat.reduceEqDiff, Nat.reduceLT, Nat.reduceLeDiff, Nat.reduceMul, Nat.reduceSub, reduceCtorEq, tbAIb1, Try.results36]
  refine OkF_back (cloneG_ok gs hd) ?_
  rintro v bs rs ⟨rfl, ⟨h0, rfl, rfl⟩ | ⟨y, rfl, rfl⟩⟩
  · simp only [↓rA, rB, Int.reduceLE, Int.reduceLT, Int.reduceToNat, Nat.reduceAdd, Nat.reduceEqDiff, Nat.reduceLT, Nat.reduceLeDiff, Nat.reduceMul, Nat.reduceSub, reduceCtorEq, tbAIb1, Try.results36]
    refine fun b1 h1 => ?_; replace h1 := newb h1; try simp only [Nb] at h1
    simp only [↓rA, rB, Int.reduceLE, Int.reduceLT, Int.reduceToNat, Nat.reduceAdd, Nat.reduceEqDiff, Nat.reduceLT, Nat.reduceLeDiff, Nat.reduceMul, Nat.reduceSub, reduceCtorEq, tbAIb1, Try.results36]
    exact ⟨_, [_], [], Le.refl _, List.Sublist.refl _, List.nil_sublist _, b1, rfl, .inl ⟨h0, rfl, rfl⟩⟩
  · simp only [↓rA, rB, Int.reduceLE, Int.reduceLT, Int.reduceToNat, Nat.reduceAdd, Nat.reduceEqDiff, Nat.reduceLT, Nat.reduceLeDiff, Nat.reduceMul, Nat.reduceSub, reduceCtorEq, tbAIb1, Try.results36]
    refine fun b1 h1 => ?_; replace h1 := newb h1; try simp only [Nb] at h1
    simp only [↓rA, rB, Int.reduceLE, Int.reduceLT, Int.reduceToNat, Nat.reduceAdd, Nat.reduceEqDiff, Nat.reduceLT, Nat.reduceLeDiff, Nat.reduceMul, Nat.reduceSub, reduceCtorEq, tbAIb1, Try.results36]
    exact ⟨_, [_], [_], Le.refl _, List.Sublist.refl _, List.Sublist.refl _, b1, rfl, .inr ⟨y, rfl, rfl⟩⟩
def SortedG (l : List Grp) : Prop := l.Pairwise fun a b => less a.key b.key = true
set_option linter.defProp false in
def tbAIb2 := (And.intro (And.intro (And.intro (And.intro (And.intro (And.intro Ty.sz3 (And.intro Ty.by3 Ty.ag3)) (And.intro Ty.zr3 (And.intro Ty.un3 Ty.sz4))) (And.intro (And.intro Ty.by4 (And.intro Ty.ag4 Ty.zr4)) (And.intro Ty.un4 (And.intro Ty.sz9 Ty.by9)))) (And.intro (And.intro (And.intro Ty.ag9 (And.intro Ty.zr9 Ty.un9)) (And.intro Ty.sz22 (And.intro Ty.by22 Ty.ag22))) (And.intro (And.intro Ty.zr22 (And.intro Ty.un22 Ty.sz41)) (And.intro Ty.by41 (And.intro Ty.ag41 Ty.zr41))))) (And.intro (And.intro (And.intro (And.intro Ty.un41 (And.intro Ty.sz53 Ty.by53)) (And.intro Ty.ag53 (And.intro Ty.zr53 Ty.fl53_0))) (And.intro (And.intro Ty.pl53_0 (And.intro Ty.fl53_1 Ty.pl53_1)) (And.intro Ty.sz54 (And.intro Ty.by54 Ty.ag54)))) (And.intro (And.intro (And.intro Ty.zr54 (And.intro Ty.un54 Ty.sz56)) (And.intro Ty.by56 (And.intro Ty.ag56 Ty.zr56))) (And.intro (And.intro Ty.fl56_0 (And.intro Ty.pl56_0 Ty.fl56_1)) (And.intro Ty.pl56_1 (And.intro Ty.fl56_2 Ty.pl56_2)))))) (And.intro (And.intro (And.intro (And.intro (And.intro Ty.fl56_3 (And.intro Ty.pl56_3 Ty.fl56_4)) (And.intro Ty.pl56_4 (And.intro Ty.fl56_5 Ty.pl56_5))) (And.intro (And.intro Ty.fl56_6 (And.intro Ty.pl56_6 Ty.sz61)) (And.intro Ty.by61 (And.intro Ty.ag61 Ty.zr61)))) (And.intro (And.intro (And.intro Ty.fl61_0 (And.intro Ty.pl61_0 Ty.fl61_1)) (And.intro Ty.pl61_1 (And.intro Ty.fl61_2 Ty.pl61_2))) (And.intro (And.intro Ty.sz65 (And.intro Ty.by65 Ty.ag65)) (And.intro Ty.zr65 (And.intro Ty.fl65_0 Ty.pl65_0))))) (And.intro (And.intro (And.intro (And.intro Ty.fl65_1 (And.intro Ty.pl65_1 Ty.sz90)) (And.intro Ty.by90 (And.intro Ty.ag90 Ty.zr90))) (And.intro (And.intro Ty.sz109 (And.intro Ty.by109 Ty.ag109)) (And.intro Ty.zr109 (And.intro Ty.fl109_0 Ty.pl109_0)))) (And.intro (And.intro (And.intro Ty.fl109_1 (And.intro Ty.pl109_1 Ty.fl109_2)) (And.intro Ty.pl109_2 (And.intro Ty.sz112 Ty.by112))) (And.intro (And.intro Ty.ag112 (And.intro Ty.zr112 Ty.un112)) (And.intro (And.intro Ty.eq53 Ty.eq109) (And.intro Ty.cb58 Ty.cb60)))))))
theorem bsearchL_ok (l : List Grp) (key : Str) (bi bp : Nat) (sl : V) (own : Option Value) (hl : l.length ≤ big) (hs : SortedG l) (h1 : bi ≠ bp) :
    Ok Try.prog 59 [.list own 2 (l.map cGrp), vstr key, placeFn bp] [(bp, .c [ptr bi]), (bi, .c [sl, keyFn])] fun v bs rs =>
      bs = [(bp, .c [ptr bi]), (bi, .c [sl, keyFn])] ∧ rs = [] ∧ ∃ i, i ≤ l.length ∧ (∀ j, (h : j < l.length) → (j < i ↔ less l[j].key key = true)) ∧ v = .tup [vint i, vbool (decide (l[i]?.map (·.key) = some key))] := by
  refine Ok.of_ex Ty.mixed Try.func59 rfl (by simp [Try.ntmps59]) (by kernel_rfl) fun F w0 I0 => ?_
  unfold big at hl
  simp only [↓rA, rB, Int.reduceLE, Int.reduceLT, Int.reduceToNat, Nat.reduceAdd, Nat.reduceEqDiff, Nat.reduceLT, Nat.reduceLeDiff, Nat.reduceMul, Nat.reduceSub, reduceCtorEq, tbAIb2, Try.results59, List.length_map]
  refine EX_while Ty.mixed (by kernel_rfl) (fun x => x.2 - x.1) (fun (x : Nat × Nat) S => (x.1 ≤ x.2 ∧ x.2 ≤ l.length ∧ (∀ j, (h : j < l.length) → j < x.1 → less l[j].key key = true) ∧ ∀ j, (h : j < l.length) → x.2 ≤ j → less l[j].key key = false) ∧ S.σ 0 = .list own 2 (l.map cGrp) ∧ S.σ 1 = vstr key ∧ S.σ 2 = placeFn bp ∧ S.σ 8 = vint l.length ∧ S.σ 9 = vint x.1 ∧ S.σ 10 = vint x.2 ∧ S.rows = [] ∧ S.boxes = [(bp, .c [ptr bi]), (bi, .c [sl, keyFn])]) (0, l.length) ⟨0, ⟨Nat.zero_le _, Nat.le_refl _, fun j h h' => by omega, fun j h h' => by omega⟩, ?_⟩ (fun ⟨i, k⟩ S ⟨⟨hik, hk, hlo, hhi⟩, g0, g1, g2, g8, g9, g10, gr, gb⟩ => ?_)
  · simp only [↓rA, rB, Int.reduceLE, Int.reduceLT, Int.reduceToNat, Nat.reduceAdd, Nat.reduceEqDiff, Nat.reduceLT, Nat.reduceLeDiff, Nat.reduceMul, Nat.reduceSub, reduceCtorEq, tbAIb2, Try.results59, List.length_map]
  · simp only at hik hk hlo hhi g9 g10
    by_cases hlt : i < k
    · simp only [↓rA, rB, Int.reduceLE, Int.reduceLT, Int.reduceToNat, Nat.reduceAdd, Nat.reduceEqDiff, Nat.reduceLT, Nat.reduceLeDiff, Nat.reduceMul, Nat.reduceSub, reduceCtorEq, tbAIb2, Try.results59, g0, g1, g2, g8, g9, g10, gr, gb, h1, Int.ofNat_lt, hlt]
      have hm := mid_eq hik (show k ≤ 4194304 by omega)
      generalize hmd : (i + k) / 2 = m at hm
      have hml : m < l.length := by omega
      rw [hm, Int.toNat_natCast]
      simp only [↓rA, rB, Int.reduceLE, Int.reduceLT, Int.reduceToNat, Nat.reduceAdd, Nat.reduceEqDiff, Nat.reduceLT, Nat.reduceLeDiff, Nat.reduceMul, Nat.reduceSub, reduceCtorEq, tbAIb2, Try.results59, List.length_map, Int.ofNat_lt, hml, getD_map]
      refine OkF_with [_, _] [] (List.Perm.refl _) (placeF_ok l[m].key key _ _ bi bp sl h1) ?_
      rintro v bs rs ⟨rfl, rfl, rfl⟩
      cases hc : less l[m].key key
      · have hc' : ¬ cmpS l[m].key key < 0 := fun h => by rw [(less_cmp _ _).2 h] at hc; cases hc
        simp only [↓rA, rB, Int.reduceLE, Int.reduceLT, Int.reduceToNat, Nat.reduceAdd, Nat.reduceEqDiff, Nat.reduceLT, Nat.reduceLeDiff, Nat.reduceMul, Nat.reduceSub, reduceCtorEq, tbAIb2, Try.results59, g0, g1, g2, g8, g9, g10, gr, gb, h1, hc', hm]
        refine ⟨(i, m), by simp only; omega, 0, ⟨by omega, by omega, hlo, fun j h hj => ?_⟩, rfl, rfl, rfl⟩
        rcases Nat.lt_or_ge m j with h' | h'
        · have hmj := (List.pairwise_iff_getElem.1 hs) m j hml h h'
          cases hjc : less l[j].key key
          · rfl
          · rw [less_trans hmj hjc] at hc; cases hc
        · obtain rfl : j = m := by simp only at hj; omega
          exact hc
      · have hc' : cmpS l[m].key key < 0 := (less_cmp _ _).1 hc
        simp only [↓rA, rB, Int.reduceLE, Int.reduceLT, Int.reduceToNat, Nat.reduceAdd, Nat.reduceEqDiff, Nat.reduceLT, Nat.reduceLeDiff, Nat.reduceMul, Nat.reduceSub, reduceCtorEq, tbAIb2, Try.results59, g0, g1, g2, g8, g9, g10, gr, gb, h1, hc', hm, wrap_succ hml (show l.length ≤ 9223372036854775807 by omega)]
        refine ⟨(m + 1, k), by simp only; omega, 0, ⟨by omega, by omega, fun j h hj => ?_, hhi⟩, rfl, rfl, rfl⟩
        rcases Nat.lt_or_ge j m with h' | h'
        · exact less_trans ((List.pairwise_iff_getElem.1 hs) j m h hml h') hc
        · obtain rfl : j = m := by simp only at hj; omega
          exact hc
    · simp only [↓rA, rB, Int.reduceLE, Int.reduceLT, Int.reduceToNat, Nat.reduceAdd, Nat.reduceEqDiff, Nat.reduceLT, Nat.reduceLeDiff, Nat.reduceMul, Nat.reduceSub, reduceCtorEq, tbAIb2, Try.results59, g0, g1, g2, g8, g9, g10, gr, gb, h1, Int.ofNat_lt, hlt]
      obtain rfl : i = k := by omega
      have hspec : ∀ j, (h : j < l.length) → (j < i ↔ less l[j].key key = true) := fun j h => by
        constructor
        · exact hlo j h
        · intro hj
          rcases Nat.lt_or_ge j i with h' | h'
          · exact h'
          · rw [hhi j h h'] at hj; cases hj
      by_cases hil : i < l.length
      · simp only [↓rA, rB, Int.reduceLE, Int.reduceLT, Int.reduceToNat, Nat.reduceAdd, Nat.reduceEqDiff, Nat.reduceLT, Nat.reduceLeDiff, Nat.reduceMul, Nat.reduceSub, reduceCtorEq, tbAIb2, Try.results59, g0, g1, g2, g8, g9, g10, gr, gb, h1, hil, Int.ofNat_lt, List.length_map, getD_map]
        refine OkF_with [_, _] [] (List.Perm.refl _) (placeF_ok l[i].key key _ _ bi bp sl h1) ?_
        rintro v bs rs ⟨rfl, rfl, rfl⟩
        simp only [↓rA, rB, Int.reduceLE, Int.reduceLT, Int.reduceToNat, Nat.reduceAdd, Nat.reduceEqDiff, Nat.reduceLT, Nat.reduceLeDiff, Nat.reduceMul, Nat.reduceSub, reduceCtorEq, tbAIb2, Try.results59, g0, g1, g2, g8, g9, g10, gr, gb, h1, hil]
        refine ⟨_, [_, _], [], Le.refl _, List.Sublist.refl _, List.nil_sublist _, rfl, rfl, i, by omega, hspec, ?_⟩
        have : decide (l[i]?.map (·.key) = some key) = decide (cmpS l[i].key key = 0) := by
          rw [List.getElem?_eq_getElem hil]
          refine decide_eq_decide.2 ?_
          simp [cmpS_eq0]
        rw [this]
      · simp only [↓rA, rB, Int.reduceLE, Int.reduceLT, Int.reduceToNat, Nat.reduceAdd, Nat.reduceEqDiff, Nat.reduceLT, Nat.reduceLeDiff, Nat.reduceMul, Nat.reduceSub, reduceCtorEq, tbAIb2, Try.results59, g0, g1, g2, g8, g9, g10, gr, gb, h1, hil]
        refine ⟨_, [_, _], [], Le.refl _, List.Sublist.refl _, List.nil_sublist _, rfl, rfl, i, by omega, hspec, ?_⟩
        rw [List.getElem?_eq_none (by omega)]
        rfl
set_option linter.defProp false in
def tbAIb3 := (And.intro (And.intro (And.intro (And.intro (And.intro (And.intro Ty.sz3 (And.intro Ty.by3 Ty.ag3)) (And.intro (And.intro Ty.zr3 Ty.un3) (And.intro Ty.sz4 Ty.by4))) (And.intro (And.intro Ty.ag4 (And.intro Ty.zr4 Ty.un4)) (And.intro (And.intro Ty.sz9 Ty.by9) (And.intro Ty.ag9 Ty.zr9)))) (And.intro (And.intro (And.intro Ty.un9 (And.intro Ty.sz22 Ty.by22)) (And.intro (And.intro Ty.ag22 Ty.zr22) (And.intro Ty.un22 Ty.sz41))) (And.intro (And.intro Ty.by41 (And.intro Ty.ag41 Ty.zr41)) (And.intro (And.intro Ty.un41 Ty.sz53) (And.intro Ty.by53 Ty.ag53))))) (And.intro (And.intro (And.intro (And.intro Ty.zr53 (And.intro Ty.fl53_0 Ty.pl53_0)) (And.intro (And.intro Ty.fl53_1 Ty.pl53_1) (And.intro Ty.sz54 Ty.by54))) (And.intro (And.intro Ty.ag54 (And.intro Ty.zr54 Ty.un54)) (And.intro (And.intro Ty.sz56 Ty.by56) (And.intro Ty.ag56 Ty.zr56)))) (And.intro (And.intro (And.intro Ty.fl56_0 (And.intro Ty.pl56_0 Ty.fl56_1)) (And.intro (And.intro Ty.pl56_1 Ty.fl56_2) (And.intro Ty.pl56_2 Ty.fl56_3))) (And.intro (And.intro Ty.pl56_3 (And.intro Ty.fl56_4 Ty.pl56_4)) (And.intro (And.intro Ty.fl56_5 Ty.pl56_5) (And.intro Ty.fl56_6 Ty.pl56_6)))))) (And.intro (And.intro (And.intro (And.intro (And.intro Ty.sz61 (And.intro Ty.by61 Ty.ag61)) (And.intro (And.intro Ty.zr61 Ty.fl61_0) (And.intro Ty.pl61_0 Ty.fl61_1))) (And.intro (And.intro Ty.pl61_1 (And.intro Ty.fl61_2 Ty.pl61_2)) (And.intro (And.intro Ty.sz65 Ty.by65) (And.intro Ty.ag65 Ty.zr65)))) (And.intro (And.intro (And.intro Ty.fl65_0 (And.intro Ty.pl65_0 Ty.fl65_1)) (And.intro (And.intro Ty.pl65_1 Ty.sz68) (And.intro Ty.by68 Ty.ag68))) (And.intro (And.intro Ty.zr68 (And.intro Ty.un68 Ty.sz70)) (And.intro (And.intro Ty.by70 Ty.ag70) (And.intro Ty.sz73 Ty.by73))))) (And.intro (And.intro (And.intro (And.intro Ty.ag73 (And.intro Ty.zr73 Ty.sz75)) (And.intro (And.intro Ty.by75 Ty.ag75) (And.intro Ty.zr75 Ty.fl75_0))) (And.intro (And.intro Ty.pl75_0 (And.intro Ty.fl75_1 Ty.pl75_1)) (And.intro (And.intro Ty.sz90 Ty.by90) (And.intro Ty.ag90 Ty.zr90)))) (And.intro (And.intro (And.intro Ty.sz109 (And.intro Ty.by109 Ty.ag109)) (And.intro (And.intro Ty.zr109 Ty.fl109_0) (And.intro Ty.pl109_0 Ty.fl109_1))) (And.intro (And.intro (And.intro Ty.pl109_1 Ty.fl109_2) (And.intro Ty.pl109_2 Ty.eq53)) (And.intro (And.intro Ty.eq109 Ty.cb58) (And.intro Ty.cb59 Ty.cb60)))))))
theorem placeL_ok (l : List Grp) (key : Str) (bi : Nat) (own : Option Value) (hl : l.length ≤ big) (hs : SortedG l) :
    Ok Try.prog 37 [ptr bi, vstr key] [(bi, .c [.list own 2 (l.map cGrp), keyFn])] fun v bs rs =>
      bs = [(bi, .c [.list own 2 (l.map cGrp), keyFn])] ∧ rs = [] ∧ ∃ i, i ≤ l.length ∧ (∀ j, (h : j < l.length) → (j < i ↔ less l[j].key key = true)) ∧ v = .tup [vint i, vbool (decide (l[i]?.map (·.key) = some key))] := by
  refine Ok.of_ex Ty.mixed Try.func37 rfl (by simp [Try.ntmps37]) (by kernel_rfl) fun F w0 I0 => ?_
  simp only [↓rA, rB, Int.reduceLE, Int.reduceLT, Int.reduceToNat, Nat.reduceAdd, Nat.reduceEqDiff, Nat.reduceLT, Nat.reduceLeDiff, Nat.reduceMul, Nat.reduceSub, reduceCtorEq, tbAIb3, Try.results37]
  refine fun bp hp => ?_; replace hp := newb hp; try simp only [Nb] at hp
  simp only [↓rA, rB, Int.reduceLE, Int.reduceLT, Int.reduceToNat, Nat.reduceAdd, Nat.reduceEqDiff, Nat.reduceLT, Nat.reduceLeDiff, Nat.reduceMul, Nat.reduceSub, reduceCtorEq, tbAIb3, Try.results37, hp]
  refine OkF_with [_, _] [] (List.Perm.refl _) (bsearchL_ok l key bi bp _ own hl hs hp.1.1) ?_
  rintro v bs rs ⟨rfl, rfl, i, hi, hj, rfl⟩
  simp only [↓rA, rB, Int.reduceLE, Int.reduceLT, Int.reduceToNat, Nat.reduceAdd, Nat.reduceEqDiff, Nat.reduceLT, Nat.reduceLeDiff, Nat.reduceMul, Nat.reduceSub, reduceCtorEq, tbAIb3, Try.results37, hp]
  exact ⟨_, [_], [], Le.refl _, List.Sublist.cons _ (List.Sublist.refl _), List.nil_sublist _, rfl, rfl, i, hi, hj, rfl⟩

theorem inI_take (rows : List Rw) (lo hi : Int) (i : Nat) (h : i < rows.length) : (rows.take (i + 1)).filter (inI lo hi) = (rows.take i).filter (inI lo hi) ++ (if inI lo hi rows[i] = true then [rows[i]] else []) := by
  rw [List.take_succ_eq_append_getElem h, List.filter_append]
  by_cases hx : inI lo hi rows[i] = true <;> simp [hx]
theorem inI_len (rows : List Rw) (lo hi : Int) (i : Nat) : ((rows.take i).filter (inI lo hi)).length ≤ i := by
  have := List.length_filter_le (inI lo hi) (rows.take i)
  simp only [List.length_take] at this
  omega
theorem rowsAt_len {d : List Dlt} (h : fitDs d) (t : Int) : (rowsAt d t).length ≤ big := by
  unfold rowsAt rowsM
  rw [List.length_map]
  exact Nat.le_trans (List.length_filter_le _ _) (Nat.le_trans (consM_len _) (early_fit h t).1)
theorem no_key {l : List Grp} {key : Str} (hs : SortedG l) {i : Nat} (hi : i ≤ l.length) (hj : ∀ j, (h : j < l.length) → (j < i ↔ less l[j].key key = true)) (hn : ¬ l[i]?.map (·.key) = some key) : ∀ g ∈ l, g.key ≠ key := by
  intro g hg e
  obtain ⟨j, hjl, rfl⟩ := List.getElem_of_mem hg
  rcases Nat.lt_or_ge j i with h | h
  · have := (hj j hjl).1 h
    exact less_ne this e
  · rcases Nat.lt_or_ge i j with h' | h'
    · have hil : i < l.length := by omega
      have := (List.pairwise_iff_getElem.1 hs) i j hil hjl h'
      have := (hj i hil).2 (e ▸ this)
      omega
    · obtain rfl : i = j := by omega
      exact hn (by rw [List.getElem?_eq_getElem hjl, Option.map_some, e])
set_option linter.defProp false in
def tbAIb4 := (And.intro (And.intro (And.intro (And.intro (And.intro (And.intro (And.intro Ty.sz3 Ty.by3) (And.intro Ty.ag3 Ty.zr3)) (And.intro (And.intro Ty.un3 Ty.sz4) (And.intro Ty.by4 Ty.ag4))) (And.intro (And.intro (And.intro Ty.zr4 Ty.un4) (And.intro Ty.sz9 Ty.by9)) (And.intro (And.intro Ty.ag9 Ty.zr9) (And.intro Ty.un9 (And.intro Ty.sz22 Ty.by22))))) (And.intro (And.intro (And.intro (And.intro Ty.ag22 Ty.zr22) (And.intro Ty.un22 Ty.sz24)) (And.intro (And.intro Ty.by24 Ty.ag24) (And.intro Ty.zr24 Ty.fl24_0))) (And.intro (And.intro (And.intro Ty.pl24_0 Ty.fl24_1) (And.intro Ty.pl24_1 Ty.sz26)) (And.intro (And.intro Ty.by26 Ty.ag26) (And.intro Ty.zr26 (And.intro Ty.fl26_0 Ty.pl26_0)))))) (And.intro (And.intro (And.intro (And.intro (And.intro Ty.fl26_1 Ty.pl26_1) (And.intro Ty.sz29 Ty.by29)) (And.intro (And.intro Ty.ag29 Ty.zr29) (And.intro Ty.un29 Ty.sz32))) (And.intro (And.intro (And.intro Ty.by32 Ty.ag32) (And.intro Ty.zr32 Ty.un32)) (And.intro (And.intro Ty.sz41 Ty.by41) (And.intro Ty.ag41 (And.intro Ty.zr41 Ty.un41))))) (And.intro (And.intro (And.intro (And.intro Ty.sz53 Ty.by53) (And.intro Ty.ag53 Ty.zr53)) (And.intro (And.intro Ty.fl53_0 Ty.pl53_0) (And.intro Ty.fl53_1 (And.intro Ty.pl53_1 Ty.sz54)))) (And.intro (And.intro (And.intro Ty.by54 Ty.ag54) (And.intro Ty.zr54 Ty.un54)) (And.intro (And.intro Ty.sz56 Ty.by56) (And.intro Ty.ag56 (And.intro Ty.zr56 Ty.fl56_0))))))) (And.intro (And.intro (And.intro (And.intro (And.intro (And.intro Ty.pl56_0 Ty.fl56_1) (And.intro Ty.pl56_1 Ty.fl56_2)) (And.intro (And.intro Ty.pl56_2 Ty.fl56_3) (And.intro Ty.pl56_3 Ty.fl56_4))) (And.intro (And.intro (And.intro Ty.pl56_4 Ty.fl56_5) (And.intro Ty.pl56_5 Ty.fl56_6)) (And.intro (And.intro Ty.pl56_6 Ty.sz61) (And.intro Ty.by61 (And.intro Ty.ag61 Ty.zr61))))) (And.intro (And.intro (And.intro (And.intro Ty.fl61_0 Ty.pl61_0) (And.intro Ty.fl61_1 Ty.pl61_1)) (And.intro (And.intro Ty.fl61_2 Ty.pl61_2) (And.intro Ty.sz65 Ty.by65))) (And.intro (And.intro (And.intro Ty.ag65 Ty.zr65) (And.intro Ty.fl65_0 Ty.pl65_0)) (And.intro (And.intro Ty.fl65_1 Ty.pl65_1) (And.intro Ty.sz68 (And.intro Ty.by68 Ty.ag68)))))) (And.intro (And.intro (And.intro (And.intro (And.intro Ty.zr68 Ty.un68) (And.intro Ty.sz70 Ty.by70)) (And.intro (And.intro Ty.ag70 Ty.sz73) (And.intro Ty.by73 Ty.ag73))) (And.intro (And.intro (And.intro Ty.zr73 Ty.sz75) (And.intro Ty.by75 Ty.ag75)) (And.intro (And.intro Ty.zr75 Ty.fl75_0) (And.intro Ty.pl75_0 (And.intro Ty.fl75_1 Ty.pl75_1))))) (And.intro (And.intro (And.intro (And.intro Ty.sz109 Ty.by109) (And.intro Ty.ag109 Ty.zr109)) (And.intro (And.intro Ty.fl109_0 Ty.pl109_0) (And.intro Ty.fl109_1 (And.intro Ty.pl109_1 Ty.fl109_2)))) (And.intro (And.intro (And.intro Ty.pl109_2 Ty.eq26) (And.intro Ty.eq53 Ty.eq109)) (And.intro (And.intro Ty.cb36 Ty.cb37) (And.intro Ty.cb38 (And.intro Ty.cb58 Ty.cb60))))))))
theorem rowsP_ok (a : Arr) (key : Str) (lo hi t : Int) (ha : fitG a.groups) (hg : GsOk a.groups) : OkP Try.prog 13 [vArr a, vstr key, .agg [vint lo, vint hi], vint t] (vRows2 (rowsA a key lo hi t)) := by
  obtain ⟨s, l⟩ := a
  obtain ⟨hl, hds⟩ := ha
  simp only at hl hds hg
  have hl0 := hl
  unfold big at hl
  refine Ok.of_ex Ty.mixed Try.func13 rfl (by simp [Try.ntmps13]) (by kernel_rfl) fun F w0 I0 => ?_
  simp only [↓rA, rB, Int.reduceLE, Int.reduceLT, Int.reduceToNat, Nat.reduceAdd, Nat.reduceEqDiff, Nat.reduceLT, Nat.reduceLeDiff, Nat.reduceMul, Nat.reduceSub, reduceCtorEq, tbAIb4, Try.results13]
  refine fun b4 h4 => ?_; replace h4 := newb h4; try simp only [Nb] at h4
  simp only [↓rA, rB, Int.reduceLE, Int.reduceLT, Int.reduceToNat, Nat.reduceAdd, Nat.reduceEqDiff, Nat.reduceLT, Nat.reduceLeDiff, Nat.reduceMul, Nat.reduceSub, reduceCtorEq, tbAIb4, Try.results13]
  refine fun b6 h6 => ?_; replace h6 := newb h6; try simp only [Nb] at h6
  simp only [↓rA, rB, Int.reduceLE, Int.reduceLT, Int.reduceToNat, Nat.reduceAdd, Nat.reduceEqDiff, Nat.reduceLT, Nat.reduceLeDiff, Nat.reduceMul, Nat.reduceSub, reduceCtorEq, tbAIb4, Try.results13, h6]
  by_cases ht : t < s
  · simp only [↓rA, rB, Int.reduceLE, Int.reduceLT, Int.reduceToNat, Nat.reduceAdd, Nat.reduceEqDiff, Nat.reduceLT, Nat.reduceLeDiff, Nat.reduceMul, Nat.reduceSub, reduceCtorEq, tbAIb4, Try.results13, h6, ht]
    refine ret_le ?_
    unfold rowsA
    rw [if_pos ht]
    exact Le.two (Le.nil 8) (Le.refl _)
  · simp only [↓rA, rB, Int.reduceLE, Int.reduceLT, Int.reduceToNat, Nat.reduceAdd, Nat.reduceEqDiff, Nat.reduceLT, Nat.reduceLeDiff, Nat.reduceMul, Nat.reduceSub, reduceCtorEq, tbAIb4, Try.results13, h6, ht]
    refine OkF_withN [] _ (List.Perm.refl _) (groupsL_ok l hl0) ?_
    rintro v bs rs ⟨bg, rfl, hcase⟩ hnd
    rcases hcase with ⟨rfl, rfl, rfl⟩ | ⟨y, rfl, rfl⟩
    · simp only [List.map_cons, List.map_nil, List.nodup_cons, List.mem_cons, List.not_mem_nil, or_false, not_or, List.cons_append, List.nil_append] at hnd
      simp only [↓rA, rB, Int.reduceLE, Int.reduceLT, Int.reduceToNat, Nat.reduceAdd, Nat.reduceEqDiff, Nat.reduceLT, Nat.reduceLeDiff, Nat.reduceMul, Nat.reduceSub, reduceCtorEq, tbAIb4, Try.results13, h6, hnd]
      refine OkF_with [_] [_, _] (List.Perm.refl _) (placeNil_ok key bg) ?_
      rintro v bs rs ⟨rfl, rfl, rfl⟩
      simp only [↓rA, rB, Int.reduceLE, Int.reduceLT, Int.reduceToNat, Nat.reduceAdd, Nat.reduceEqDiff, Nat.reduceLT, Nat.reduceLeDiff, Nat.reduceMul, Nat.reduceSub, reduceCtorEq, tbAIb4, Try.results13, h6]
      refine ret_le ?_
      unfold rowsA
      rw [if_neg ht]
      exact Le.two (Le.nil 8) (Le.refl _)
    · simp only [List.map_cons, List.map_nil, List.nodup_cons, List.mem_cons, List.not_mem_nil, or_false, not_or, List.cons_append, List.nil_append] at hnd
      have n1 : bg ≠ b4 ∧ bg ≠ b6 := by simp_all
      simp only [↓rA, rB, Int.reduceLE, Int.reduceLT, Int.reduceToNat, Nat.reduceAdd, Nat.reduceEqDiff, Nat.reduceLT, Nat.reduceLeDiff, Nat.reduceMul, Nat.reduceSub, reduceCtorEq, tbAIb4, Try.results13, h6, n1]
      refine OkF_with [_] [_, _] (List.Perm.refl _) (placeL_ok l key bg (some y) hl0 hg.sorted) ?_
      rintro v bs rs ⟨rfl, rfl, i, hi', hj, rfl⟩
      by_cases hfd : l[i]?.map (·.key) = some key
      · have hil : i < l.length := by
          rcases Nat.lt_or_ge i l.length with h | h
          · exact h
          · rw [List.getElem?_eq_none h] at hfd; cases hfd
        have hkey : l[i].key = key := by rw [List.getElem?_eq_getElem hil] at hfd; simpa using hfd
        have hrk : rowsK ⟨s, l⟩ key lo hi t = (rowsAt l[i].ds t).filter (inI lo hi) := by
          unfold rowsK
          rw [← hkey, part_of hg (List.getElem_mem hil)]
          rfl
        simp only [↓rA, rB, Int.reduceLE, Int.reduceLT, Int.reduceToNat, Nat.reduceAdd, Nat.reduceEqDiff, Nat.reduceLT, Nat.reduceLeDiff, Nat.reduceMul, Nat.reduceSub, reduceCtorEq, tbAIb4, Try.results13, h6, n1, n1.1.symm, n1.2.symm, hfd, Int.ofNat_lt, hil, List.length_map, getD_map]
        have hlen := rowsAt_len (hds _ (List.getElem_mem hil)) t
        unfold big at hlen
        refine OkF_of _ (OkRow.list (at_ok l[i].ds t (hds _ (List.getElem_mem hil)))) ?_
        rw [show rowsM (consM (earlyM l[i].ds t)) = rowsAt l[i].ds t from rfl]
        generalize hR : rowsAt l[i].ds t = R at hlen hrk
        simp only [↓rA, rB, Int.reduceLE, Int.reduceLT, Int.reduceToNat, Nat.reduceAdd, Nat.reduceEqDiff, Nat.reduceLT, Nat.reduceLeDiff, Nat.reduceMul, Nat.reduceSub, reduceCtorEq, tbAIb4, Try.results13, h6, n1, n1.1.symm, n1.2.symm, List.length_map]
        refine AWP.nilRow 8 8 56 (by simp only [↓rA, rB, Int.reduceLE, Int.reduceLT, Int.reduceToNat, Nat.reduceAdd, Nat.reduceEqDiff, Nat.reduceLT, Nat.reduceLeDiff, Nat.reduceMul, Nat.reduceSub, reduceCtorEq, tbAIb4, Try.results13]) (by decide) ?_
        refine EX_forS Ty.mixed (by kernel_rfl) R.length (fun j S => ∃ y2, S.σ 8 = .list (some y2) 8 (((R.take j).filter (inI lo hi)).map cRow) ∧ S.rows = [⟨y2, 8, 56⟩] ∧ S.boxes = [(b6, .c [vint lo, vint hi])] ∧ S.σ 6 = ptr b6 ∧ S.σ 9 = vint 0 ∧ S.σ 39 = vRows R ∧ S.σ 40 = vint R.length ∧ S.σ 41 = vint j) ⟨[_], [_], List.Sublist.cons _ (List.Sublist.cons_cons _ (List.nil_sublist _)), List.Sublist.cons_cons _ (List.nil_sublist _), nilv, ?_⟩ (fun j S hj' ⟨y2, g8, gr, gb, g6, g9, g39, g40, g41⟩ => ?_) (fun S ⟨y2, g8, gr, gb, g6, g9, g39, g40, g41⟩ => ?_)
        · simp only [↓rA, rB, Int.reduceLE, Int.reduceLT, Int.reduceToNat, Nat.reduceAdd, Nat.reduceEqDiff, Nat.reduceLT, Nat.reduceLeDiff, Nat.reduceMul, Nat.reduceSub, reduceCtorEq, tbAIb4, Try.results13, h6, n1]
          try simp
        · have htk := inI_take R lo hi j hj'
          have hln := inI_len R lo hi j
          simp only [↓rA, rB, Int.reduceLE, Int.reduceLT, Int.reduceToNat, Nat.reduceAdd, Nat.reduceEqDiff, Nat.reduceLT, Nat.reduceLeDiff, Nat.reduceMul, Nat.reduceSub, reduceCtorEq, tbAIb4, Try.results13, g8, gr, gb, g6, g9, g39, g40, g41, Int.ofNat_lt, hj', List.length_map, getD_map]
          refine fun b14 h14 => ?_; replace h14 := newb h14; try simp only [Nb] at h14
          by_cases hx1 : lo ≤ R[j].event
          · by_cases hx2 : R[j].event ≤ hi
            · simp only [↓rA, rB, Int.reduceLE, Int.reduceLT, Int.reduceToNat, Nat.reduceAdd, Nat.reduceEqDiff, Nat.reduceLT, Nat.reduceLeDiff, Nat.reduceMul, Nat.reduceSub, reduceCtorEq, tbAIb4, Try.results13, g8, gr, gb, g6, g9, g39, g40, g41, h14, hx1, hx2]
              refine fun y3 => takeRF_2 ?_
              simp only [↓rA, rB, Int.reduceLE, Int.reduceLT, Int.reduceToNat, Nat.reduceAdd, Nat.reduceEqDiff, Nat.reduceLT, Nat.reduceLeDiff, Nat.reduceMul, Nat.reduceSub, reduceCtorEq, tbAIb4, Try.results13, g8, gr, gb, g6, g9, g39, g40, g41, h14, wrap_succ hj' (Nat.le_trans hlen (by decide)), List.length_map]
              refine ⟨(by first | omega | (simp; omega)), fun y4 => ⟨[_], [_], List.Sublist.cons _ (List.Sublist.refl _), List.Sublist.cons_cons _ (List.nil_sublist _), y4, ?_⟩⟩
              simp only [↓rA, rB, Int.reduceLE, Int.reduceLT, Int.reduceToNat, Nat.reduceAdd, Nat.reduceEqDiff, Nat.reduceLT, Nat.reduceLeDiff, Nat.reduceMul, Nat.reduceSub, reduceCtorEq, tbAIb4, Try.results13, g8, gr, gb, g6, g9, g39, g40, g41, h14, wrap_succ hj' (Nat.le_trans hlen (by decide)), List.length_map]
              rw [htk, if_pos (by simp [inI, hx1, hx2]), List.map_append]
              rfl
            · simp only [↓rA, rB, Int.reduceLE, Int.reduceLT, Int.reduceToNat, Nat.reduceAdd, Nat.reduceEqDiff, Nat.reduceLT, Nat.reduceLeDiff, Nat.reduceMul, Nat.reduceSub, reduceCtorEq, tbAIb4, Try.results13, g8, gr, gb, g6, g9, g39, g40, g41, h14, hx1, hx2, wrap_succ hj' (Nat.le_trans hlen (by decide))]
              refine ⟨[_], _, List.Sublist.cons _ (List.Sublist.refl _), List.Sublist.refl _, y2, ?_⟩
              simp only [↓rA, rB, Int.reduceLE, Int.reduceLT, Int.reduceToNat, Nat.reduceAdd, Nat.reduceEqDiff, Nat.reduceLT, Nat.reduceLeDiff, Nat.reduceMul, Nat.reduceSub, reduceCtorEq, tbAIb4, Try.results13, g8, gr, gb, g6, g9, g39, g40, g41, h14, wrap_succ hj' (Nat.le_trans hlen (by decide)), List.length_map]
              rw [htk, if_neg (by simp [inI, hx1, hx2]), List.append_nil]
          · simp only [↓rA, rB, Int.reduceLE, Int.reduceLT, Int.reduceToNat, Nat.reduceAdd, Nat.reduceEqDiff, Nat.reduceLT, Nat.reduceLeDiff, Nat.reduceMul, Nat.reduceSub, reduceCtorEq, tbAIb4, Try.results13, g8, gr, gb, g6, g9, g39, g40, g41, h14, hx1, wrap_succ hj' (Nat.le_trans hlen (by decide))]
            refine ⟨[_], _, List.Sublist.cons _ (List.Sublist.refl _), List.Sublist.refl _, y2, ?_⟩
            simp only [↓rA, rB, Int.reduceLE, Int.reduceLT, Int.reduceToNat, Nat.reduceAdd, Nat.reduceEqDiff, Nat.reduceLT, Nat.reduceLeDiff, Nat.reduceMul, Nat.reduceSub, reduceCtorEq, tbAIb4, Try.results13, g8, gr, gb, g6, g9, g39, g40, g41, h14, wrap_succ hj' (Nat.le_trans hlen (by decide)), List.length_map]
            rw [htk, if_neg (by simp [inI, hx1]), List.append_nil]
        · simp only [↓rA, rB, Int.reduceLE, Int.reduceLT, Int.reduceToNat, Nat.reduceAdd, Nat.reduceEqDiff, Nat.reduceLT, Nat.reduceLeDiff, Nat.reduceMul, Nat.reduceSub, reduceCtorEq, tbAIb4, Try.results13, g8, gr, gb, g6, g9, g39, g40, g41, Int.ofNat_lt, Nat.lt_irrefl, List.length_map]
          rw [List.take_of_length_le (Nat.le_refl _)]
          refine ret_le ?_
          unfold rowsA
          rw [if_neg ht, hrk]
          exact Le.two (Le.list _ _ _) (Le.refl _)
      · have hrk : rowsK ⟨s, l⟩ key lo hi t = [] := by
          unfold rowsK
          rw [part_none hg (no_key hg.sorted hi' hj hfd)]
          rfl
        simp only [↓rA, rB, Int.reduceLE, Int.reduceLT, Int.reduceToNat, Nat.reduceAdd, Nat.reduceEqDiff, Nat.reduceLT, Nat.reduceLeDiff, Nat.reduceMul, Nat.reduceSub, reduceCtorEq, tbAIb4, Try.results13, h6, n1, hfd]
        refine ret_le ?_
        unfold rowsA
        rw [if_neg ht, hrk]
        exact Le.two (Le.nil 8) (Le.refl _)
theorem keysP2_ok (a : Arr) (t : Int) (ha : fitG a.groups) : OkP Try.prog 14 [vArr a, vint t] (vKeys2 (keysA a t)) := by
  refine Ok.norows (keysP_ok a t ha) fun v bs rs ⟨h1, h2⟩ => ⟨vKeys2 (keysA a t), [], [], ?_, List.nil_sublist _, List.nil_sublist _, rfl, rfl, rfl⟩
  unfold keysA
  rcases h2 with ⟨h3, rfl, _⟩ | ⟨h3, y, rfl, _⟩
  · rw [if_pos h3]; exact Le.two (Le.nil 1) (Le.refl _)
  · rw [if_neg h3]; exact Le.two (Le.list _ _ _) (Le.refl _)
end Go.Proofs.Ytopfanlkbepemaa

/- Arrangements: contracts, the chapter's example. -/
set_option linter.unusedSimpArgs false
set_option maxRecDepth 100000
namespace Go.Proofs.Ytopfanlkbepemaa
open Go.VL Go.Ar Go.Proofs.Ytopfanlkbepemaa

def strU : Str := ⟨#[117]⟩
def strV : Str := ⟨#[118]⟩
def rowC (key : Str) (e : Int) : Rw := ⟨⟨⟨#[115]⟩, e⟩, ⟨#[116]⟩, key, e, [], e, e⟩
def dEx : List Dlt := [⟨rowC strU 5, 10, 1⟩, ⟨rowC strU 5, 20, -1⟩, ⟨rowC strV 7, 30, 1⟩]
def aEx : Arr := ofM 0 dEx
def bEx : Arr := ofM 25 (advD 25 (allD aEx.groups))
set_option linter.defProp false in
def tbAJb0 := (And.intro (And.intro (And.intro (And.intro (And.intro Ty.sz3 (And.intro Ty.by3 Ty.ag3)) (And.intro Ty.zr3 (And.intro Ty.un3 Ty.sz9))) (And.intro (And.intro Ty.by9 (And.intro Ty.ag9 Ty.zr9)) (And.intro (And.intro Ty.un9 Ty.sz53) (And.intro Ty.by53 Ty.ag53)))) (And.intro (And.intro (And.intro Ty.zr53 (And.intro Ty.fl53_0 Ty.pl53_0)) (And.intro Ty.fl53_1 (And.intro Ty.pl53_1 Ty.sz54))) (And.intro (And.intro Ty.by54 (And.intro Ty.ag54 Ty.zr54)) (And.intro (And.intro Ty.un54 Ty.sz56) (And.intro Ty.by56 Ty.ag56))))) (And.intro (And.intro (And.intro (And.intro Ty.zr56 (And.intro Ty.fl56_0 Ty.pl56_0)) (And.intro Ty.fl56_1 (And.intro Ty.pl56_1 Ty.fl56_2))) (And.intro (And.intro Ty.pl56_2 (And.intro Ty.fl56_3 Ty.pl56_3)) (And.intro (And.intro Ty.fl56_4 Ty.pl56_4) (And.intro Ty.fl56_5 Ty.pl56_5)))) (And.intro (And.intro (And.intro Ty.fl56_6 (And.intro Ty.pl56_6 Ty.sz109)) (And.intro (And.intro Ty.by109 Ty.ag109) (And.intro Ty.zr109 Ty.fl109_0))) (And.intro (And.intro Ty.pl109_0 (And.intro Ty.fl109_1 Ty.pl109_1)) (And.intro (And.intro Ty.fl109_2 Ty.pl109_2) (And.intro Ty.eq53 Ty.eq109))))))
theorem row_ok (key : Str) (e : Int) : OkP Try.prog 33 [vstr key, vint e] (.agg (cRow (rowC key e))) := by
  refine Ok.of_ex Ty.mixed Try.func33 rfl (by simp [Try.ntmps33]) (by kernel_rfl) fun F w0 I0 => ?_
  simp only [↓rA, rB, Int.reduceLE, Int.reduceLT, Int.reduceToNat, Nat.reduceAdd, Nat.reduceEqDiff, Nat.reduceLT, Nat.reduceLeDiff, Nat.reduceMul, Nat.reduceSub, reduceCtorEq, tbAJb0, Try.results33]
  refine fun b4 h4 => ?_; replace h4 := newb h4; try simp only [Nb] at h4
  simp only [↓rA, rB, Int.reduceLE, Int.reduceLT, Int.reduceToNat, Nat.reduceAdd, Nat.reduceEqDiff, Nat.reduceLT, Nat.reduceLeDiff, Nat.reduceMul, Nat.reduceSub, reduceCtorEq, tbAJb0, Try.results33, h4]
  exact ret_le (Le.agg (.cons (Le.refl _) (.cons (Le.refl _) (.cons (Le.refl _) (.cons (Le.refl _) (.cons (Le.refl _) (.cons (Le.nil 3) (LeL.refl _))))))))
theorem fitR_row (key : Str) (e : Int) : fitR (rowC key e) := ⟨by simp [rowC], by simp [rowC, encL], fun v hv => by cases hv⟩
theorem fit_dEx : fitDs dEx := by
  refine ⟨by simp [dEx, big], fun x hx => ?_⟩
  simp only [dEx, List.mem_cons, List.not_mem_nil, or_false] at hx
  rcases hx with rfl | rfl | rfl
  · exact ⟨by unfold inR; simp only; omega, fitR_row _ _⟩
  · exact ⟨by unfold inR; simp only; omega, fitR_row _ _⟩
  · exact ⟨by unfold inR; simp only; omega, fitR_row _ _⟩
theorem fit_nil (s : Int) : fitA ⟨s, []⟩ := ⟨by simp, by simp [allD, big], fun x hx => by cases hx⟩
theorem fit_aEx : fitA aEx := fit_of fit_dEx
theorem gs_aEx : GsOk aEx.groups := grpsM_ok fit_dEx.okN
theorem fit_bEx : fitA bEx := fit_of (fit_aEx.2.adv 25)
theorem gs_bEx : GsOk bEx.groups := grpsM_ok (fit_aEx.2.adv 25).okN
theorem ex1 : insA ⟨0, []⟩ dEx = (aEx, 0) := by
  unfold insA
  rw [if_neg (by decide)]; rfl
theorem ex2 : rowsA aEx strU 0 1099511627776 15 = ([rowC strU 5], 0) := by decide +kernel
theorem ex3 : rowsA aEx strU 0 1099511627776 20 = ([], 0) := by decide +kernel
theorem ex4 : keysA aEx 15 = ([strU], 0) := by decide +kernel
theorem ex5 : keysA aEx 30 = ([strV], 0) := by decide +kernel
theorem ex6 : advA aEx 25 = (bEx, 0) := by
  unfold advA
  rw [if_neg (by decide), if_neg (by decide)]; rfl
theorem ex7 : rowsA bEx strU 0 1099511627776 24 = ([], 220) := by
  unfold rowsA
  rw [if_pos (by decide)]
theorem ex8 : insA ⟨15, []⟩ dEx = (arr0, 220) := by
  unfold insA
  rw [if_pos (by decide)]
theorem ex9 : bEx = ⟨25, [⟨strV, [⟨rowC strV 7, 30, 1⟩]⟩]⟩ := by decide +kernel
theorem Le.dEx (y : Option Value) : Le (.list y 10 [cDlt ⟨rowC strU 5, 10, 1⟩, cDlt ⟨rowC strU 5, 20, -1⟩, cDlt ⟨rowC strV 7, 30, 1⟩]) (vDlts Go.Proofs.Ytopfanlkbepemaa.dEx) := Le.list _ _ _
/-- What is known of a state, and no more. -/
theorem EX_gen {C : Ctx} {k : List It} {S : St} {Q : Exit → St → Prop} (T : St → Prop) (h : T S) (hk : ∀ S, T S → EX C k S Q) : EX C k S Q := hk S h
set_option linter.defProp false in
def tbAJb1 := (And.intro (And.intro (And.intro (And.intro (And.intro (And.intro (And.intro Ty.sz3 Ty.by3) (And.intro Ty.ag3 Ty.zr3)) (And.intro (And.intro Ty.un3 Ty.sz4) (And.intro Ty.by4 Ty.ag4))) (And.intro (And.intro (And.intro Ty.zr4 Ty.un4) (And.intro Ty.sz9 Ty.by9)) (And.intro (And.intro Ty.ag9 Ty.zr9) (And.intro Ty.un9 (And.intro Ty.sz22 Ty.by22))))) (And.intro (And.intro (And.intro (And.intro Ty.ag22 Ty.zr22) (And.intro Ty.un22 Ty.sz24)) (And.intro (And.intro Ty.by24 Ty.ag24) (And.intro Ty.zr24 Ty.fl24_0))) (And.intro (And.intro (And.intro Ty.pl24_0 Ty.fl24_1) (And.intro Ty.pl24_1 Ty.sz26)) (And.intro (And.intro Ty.by26 Ty.ag26) (And.intro Ty.zr26 (And.intro Ty.fl26_0 Ty.pl26_0)))))) (And.intro (And.intro (And.intro (And.intro (And.intro Ty.fl26_1 Ty.pl26_1) (And.intro Ty.sz29 Ty.by29)) (And.intro (And.intro Ty.ag29 Ty.zr29) (And.intro Ty.un29 Ty.sz30))) (And.intro (And.intro (And.intro Ty.by30 Ty.ag30) (And.intro Ty.sz32 Ty.by32)) (And.intro (And.intro Ty.ag32 Ty.zr32) (And.intro Ty.un32 (And.intro Ty.sz33 Ty.by33))))) (And.intro (And.intro (And.intro (And.intro Ty.ag33 Ty.sz35) (And.intro Ty.by35 Ty.ag35)) (And.intro (And.intro Ty.zr35 Ty.un35) (And.intro Ty.sz36 Ty.by36))) (And.intro (And.intro (And.intro Ty.ag36 Ty.sz41) (And.intro Ty.by41 Ty.ag41)) (And.intro (And.intro Ty.zr41 Ty.un41) (And.intro Ty.sz53 (And.intro Ty.by53 Ty.ag53))))))) (And.intro (And.intro (And.intro (And.intro (And.intro (And.intro Ty.zr53 Ty.fl53_0) (And.intro Ty.pl53_0 Ty.fl53_1)) (And.intro (And.intro Ty.pl53_1 Ty.sz54) (And.intro Ty.by54 Ty.ag54))) (And.intro (And.intro (And.intro Ty.zr54 Ty.un54) (And.intro Ty.sz56 Ty.by56)) (And.intro (And.intro Ty.ag56 Ty.zr56) (And.intro Ty.fl56_0 (And.intro Ty.pl56_0 Ty.fl56_1))))) (And.intro (And.intro (And.intro (And.intro Ty.pl56_1 Ty.fl56_2) (And.intro Ty.pl56_2 Ty.fl56_3)) (And.intro (And.intro Ty.pl56_3 Ty.fl56_4) (And.intro Ty.pl56_4 Ty.fl56_5))) (And.intro (And.intro (And.intro Ty.pl56_5 Ty.fl56_6) (And.intro Ty.pl56_6 Ty.sz61)) (And.intro (And.intro Ty.by61 Ty.ag61) (And.intro Ty.zr61 (And.intro Ty.fl61_0 Ty.pl61_0)))))) (And.intro (And.intro (And.intro (And.intro (And.intro Ty.fl61_1 Ty.pl61_1) (And.intro Ty.fl61_2 Ty.pl61_2)) (And.intro (And.intro Ty.sz65 Ty.by65) (And.intro Ty.ag65 Ty.zr65))) (And.intro (And.intro (And.intro Ty.fl65_0 Ty.pl65_0) (And.intro Ty.fl65_1 Ty.pl65_1)) (And.intro (And.intro Ty.sz109 Ty.by109) (And.intro Ty.ag109 (And.intro Ty.zr109 Ty.fl109_0))))) (And.intro (And.intro (And.intro (And.intro Ty.pl109_0 Ty.fl109_1) (And.intro Ty.pl109_1 Ty.fl109_2)) (And.intro (And.intro Ty.pl109_2 Ty.eq26) (And.intro Ty.eq53 Ty.eq109))) (And.intro (And.intro (And.intro Ty.cb12 Ty.cb13) (And.intro Ty.cb14 Ty.cb15)) (And.intro (And.intro Ty.cb16 Ty.cb17) (And.intro Ty.cb24 (And.intro Ty.cb29 Ty.cb33))))))))
set_option maxHeartbeats 1000000 in
theorem example_gen (aE bE : Arr) (fa : fitA aE) (ga : GsOk aE.groups) (fb : fitA bE) (gb : GsOk bE.groups) (e1 : insA ⟨0, []⟩ dEx = (aE, 0)) (e2 : rowsA aE strU 0 1099511627776 15 = ([rowC strU 5], 0)) (e3 : rowsA aE strU 0 1099511627776 20 = ([], 0)) (e4 : keysA aE 15 = ([strU], 0)) (e5 : keysA aE 30 = ([strV], 0)) (e6 : advA aE 25 = (bE, 0)) (e7 : rowsA bE strU 0 1099511627776 24 = ([], 220))
    (hg : ∃ ds, bE.groups = [⟨strV, ds⟩]) (hs : bE.since = 25) : OkP Try.prog 10 [] (vbool true) := by
  refine Ok.of_ex Ty.mixed Try.func10 rfl (by simp [Try.ntmps10]) (by kernel_rfl) fun F w0 I0 => ?_
  simp only [↓rA, rB, Int.reduceLE, Int.reduceLT, Int.reduceToNat, Nat.reduceAdd, Nat.reduceEqDiff, Nat.reduceLT, Nat.reduceLeDiff, Nat.reduceMul, Nat.reduceSub, reduceCtorEq, tbAJb1, Try.results10]
  refine OkF_of _ (row_ok strU 5) ?_
  simp only [↓rA, rB, Int.reduceLE, Int.reduceLT, Int.reduceToNat, Nat.reduceAdd, Nat.reduceEqDiff, Nat.reduceLT, Nat.reduceLeDiff, Nat.reduceMul, Nat.reduceSub, reduceCtorEq, tbAJb1, Try.results10]
  refine OkF_of _ (row_ok strV 7) ?_
  simp only [↓rA, rB, Int.reduceLE, Int.reduceLT, Int.reduceToNat, Nat.reduceAdd, Nat.reduceEqDiff, Nat.reduceLT, Nat.reduceLeDiff, Nat.reduceMul, Nat.reduceSub, reduceCtorEq, tbAJb1, Try.results10]
  refine fun b1 h1 => ?_; replace h1 := newb h1; try simp only [Nb] at h1
  simp only [↓rA, rB, Int.reduceLE, Int.reduceLT, Int.reduceToNat, Nat.reduceAdd, Nat.reduceEqDiff, Nat.reduceLT, Nat.reduceLeDiff, Nat.reduceMul, Nat.reduceSub, reduceCtorEq, tbAJb1, Try.results10, h1]
  refine fun b2 h2 => ?_; replace h2 := newb h2; try simp only [Nb] at h2
  simp only [↓rA, rB, Int.reduceLE, Int.reduceLT, Int.reduceToNat, Nat.reduceAdd, Nat.reduceEqDiff, Nat.reduceLT, Nat.reduceLeDiff, Nat.reduceMul, Nat.reduceSub, reduceCtorEq, tbAJb1, Try.results10, h1, h2]
  refine fun y => ?_
  refine OkF_of _ (newP_ok 0) ?_
  simp only [↓rA, rB, Int.reduceLE, Int.reduceLT, Int.reduceToNat, Nat.reduceAdd, Nat.reduceEqDiff, Nat.reduceLT, Nat.reduceLeDiff, Nat.reduceMul, Nat.reduceSub, reduceCtorEq, tbAJb1, Try.results10, h1, h2]
  refine OkF_le (.cons (Le.refl _) (.cons (Le.dEx _) .nil)) _ (insP_ok ⟨0, []⟩ dEx (fit_nil 0) fit_dEx) ?_
  rw [e1]
  simp only [↓rA, rB, Int.reduceLE, Int.reduceLT, Int.reduceToNat, Nat.reduceAdd, Nat.reduceEqDiff, Nat.reduceLT, Nat.reduceLeDiff, Nat.reduceMul, Nat.reduceSub, reduceCtorEq, tbAJb1, Try.results10, h1, h2]
  refine fun b4 h4 => ?_; replace h4 := newb h4; try simp only [Nb] at h4
  simp only [↓rA, rB, Int.reduceLE, Int.reduceLT, Int.reduceToNat, Nat.reduceAdd, Nat.reduceEqDiff, Nat.reduceLT, Nat.reduceLeDiff, Nat.reduceMul, Nat.reduceSub, reduceCtorEq, tbAJb1, Try.results10, h1, h2, h4]
  refine CallV_of _ ever_ok.v ?_
  simp only [↓rA, rB, Int.reduceLE, Int.reduceLT, Int.reduceToNat, Nat.reduceAdd, Nat.reduceEqDiff, Nat.reduceLT, Nat.reduceLeDiff, Nat.reduceMul, Nat.reduceSub, reduceCtorEq, tbAJb1, Try.results10, h1, h2, h4]
  refine CallV_of _ (rowsP_ok aE strU 0 1099511627776 15 fa.fitG ga).v ?_
  rw [e2]
  simp only [↓rA, rB, Int.reduceLE, Int.reduceLT, Int.reduceToNat, Nat.reduceAdd, Nat.reduceEqDiff, Nat.reduceLT, Nat.reduceLeDiff, Nat.reduceMul, Nat.reduceSub, reduceCtorEq, tbAJb1, Try.results10, h1, h2, h4]
  refine CallV_of _ ever_ok.v ?_
  simp only [↓rA, rB, Int.reduceLE, Int.reduceLT, Int.reduceToNat, Nat.reduceAdd, Nat.reduceEqDiff, Nat.reduceLT, Nat.reduceLeDiff, Nat.reduceMul, Nat.reduceSub, reduceCtorEq, tbAJb1, Try.results10, h1, h2, h4]
  refine CallV_of _ (rowsP_ok aE strU 0 1099511627776 20 fa.fitG ga).v ?_
  rw [e3]
  simp only [↓rA, rB, Int.reduceLE, Int.reduceLT, Int.reduceToNat, Nat.reduceAdd, Nat.reduceEqDiff, Nat.reduceLT, Nat.reduceLeDiff, Nat.reduceMul, Nat.reduceSub, reduceCtorEq, tbAJb1, Try.results10, h1, h2, h4]
  refine OkF_of _ (keysP2_ok aE 15 fa.fitG) ?_
  rw [e4]
  simp only [↓rA, rB, Int.reduceLE, Int.reduceLT, Int.reduceToNat, Nat.reduceAdd, Nat.reduceEqDiff, Nat.reduceLT, Nat.reduceLeDiff, Nat.reduceMul, Nat.reduceSub, reduceCtorEq, tbAJb1, Try.results10, h1, h2, h4]
  refine OkF_of _ (keysP2_ok aE 30 fa.fitG) ?_
  rw [e5]
  refine EX_gen (fun S => S.σ 1 = ptr b1 ∧ S.σ 2 = ptr b2 ∧ S.σ 3 = .list (some y) 10 [cDlt ⟨rowC strU 5, 10, 1⟩, cDlt ⟨rowC strU 5, 20, -1⟩, cDlt ⟨rowC strV 7, 30, 1⟩] ∧ S.σ 4 = ptr b4 ∧ S.σ 5 = vint 0 ∧ S.σ 6 = vRows [rowC strU 5] ∧ S.σ 7 = vint 0 ∧ S.σ 8 = vRows [] ∧ S.σ 9 = vint 0 ∧ S.σ 10 = vstrs [strU] ∧ S.σ 11 = vint 0 ∧ S.σ 55 = vKeys2 ([strV], 0) ∧ S.boxes = [(b4, .c (cArr aE)), (b2, .c (cRow (rowC strV 7))), (b1, .c (cRow (rowC strU 5)))]) ?_ fun S ⟨q1, q2, q3, q4, q5, q6, q7, q8, q9, q10, q11, q55, qb⟩ => ?_
  · simp only [↓rA, rB, Int.reduceLE, Int.reduceLT, Int.reduceToNat, Nat.reduceAdd, Nat.reduceEqDiff, Nat.reduceLT, Nat.reduceLeDiff, Nat.reduceMul, Nat.reduceSub, reduceCtorEq, tbAJb1, Try.results10, h1, h2, h4]
  simp only [↓rA, rB, Int.reduceLE, Int.reduceLT, Int.reduceToNat, Nat.reduceAdd, Nat.reduceEqDiff, Nat.reduceLT, Nat.reduceLeDiff, Nat.reduceMul, Nat.reduceSub, reduceCtorEq, tbAJb1, Try.results10, h1, h2, h4, q1, q2, q3, q4, q5, q6, q7, q8, q9, q10, q11, q55, qb]
  refine OkF_of _ (advP_ok aE 25 fa) ?_
  rw [e6]
  simp only [↓rA, rB, Int.reduceLE, Int.reduceLT, Int.reduceToNat, Nat.reduceAdd, Nat.reduceEqDiff, Nat.reduceLT, Nat.reduceLeDiff, Nat.reduceMul, Nat.reduceSub, reduceCtorEq, tbAJb1, Try.results10, h1, h2, h4, q1, q2, q3, q4, q5, q6, q7, q8, q9, q10, q11, qb]
  refine fun b14 h14 => ?_; replace h14 := newb h14; try simp only [Nb] at h14
  simp only [↓rA, rB, Int.reduceLE, Int.reduceLT, Int.reduceToNat, Nat.reduceAdd, Nat.reduceEqDiff, Nat.reduceLT, Nat.reduceLeDiff, Nat.reduceMul, Nat.reduceSub, reduceCtorEq, tbAJb1, Try.results10, h1, h2, h4, h14, q1, q2, q3, q4, q5, q6, q7, q8, q9, q10, q11, qb]
  refine CallV_of _ ever_ok.v ?_
  simp only [↓rA, rB, Int.reduceLE, Int.reduceLT, Int.reduceToNat, Nat.reduceAdd, Nat.reduceEqDiff, Nat.reduceLT, Nat.reduceLeDiff, Nat.reduceMul, Nat.reduceSub, reduceCtorEq, tbAJb1, Try.results10, h1, h2, h4, h14, q1, q2, q3, q4, q5, q6, q7, q8, q9, q10, q11, qb]
  refine CallV_of _ (rowsP_ok bE strU 0 1099511627776 24 fb.fitG gb).v ?_
  rw [e7]
  simp only [↓rA, rB, Int.reduceLE, Int.reduceLT, Int.reduceToNat, Nat.reduceAdd, Nat.reduceEqDiff, Nat.reduceLT, Nat.reduceLeDiff, Nat.reduceMul, Nat.reduceSub, reduceCtorEq, tbAJb1, Try.results10, h1, h2, h4, h14, q1, q2, q3, q4, q5, q6, q7, q8, q9, q10, q11, qb]
  refine OkF_of _ (newP_ok 15) ?_
  simp only [↓rA, rB, Int.reduceLE, Int.reduceLT, Int.reduceToNat, Nat.reduceAdd, Nat.reduceEqDiff, Nat.reduceLT, Nat.reduceLeDiff, Nat.reduceMul, Nat.reduceSub, reduceCtorEq, tbAJb1, Try.results10, h1, h2, h4, h14, q1, q2, q3, q4, q5, q6, q7, q8, q9, q10, q11, qb]
  refine OkF_le (.cons (Le.refl _) (.cons (Le.dEx _) .nil)) _ (insP_ok ⟨15, []⟩ dEx (fit_nil 15) fit_dEx) ?_
  rw [ex8]
  refine EX_gen (fun S => S.σ 1 = ptr b1 ∧ S.σ 2 = ptr b2 ∧ S.σ 4 = ptr b4 ∧ S.σ 5 = vint 0 ∧ S.σ 6 = vRows [rowC strU 5] ∧ S.σ 7 = vint 0 ∧ S.σ 8 = vRows [] ∧ S.σ 9 = vint 0 ∧ S.σ 10 = vstrs [strU] ∧ S.σ 11 = vint 0 ∧ S.σ 12 = vstrs [strV] ∧ S.σ 13 = vint 0 ∧ S.σ 14 = ptr b14 ∧ S.σ 15 = vint 0 ∧ S.σ 17 = vint 220 ∧ S.σ 72 = vRes (arr0, 220) ∧ S.boxes = [(b14, .c (cArr bE)), (b4, .c (cArr aE)), (b2, .c (cRow (rowC strV 7))), (b1, .c (cRow (rowC strU 5)))]) ?_ fun S ⟨q1, q2, q4, q5, q6, q7, q8, q9, q10, q11, q12, q13, q14, q15, q17, q72, qb⟩ => ?_
  · simp only [↓rA, rB, Int.reduceLE, Int.reduceLT, Int.reduceToNat, Nat.reduceAdd, Nat.reduceEqDiff, Nat.reduceLT, Nat.reduceLeDiff, Nat.reduceMul, Nat.reduceSub, reduceCtorEq, tbAJb1, Try.results10, h1, h2, h4, h14, q1, q2, q3, q4, q5, q6, q7, q8, q9, q10, q11, qb]
  simp only [↓rA, rB, Int.reduceLE, Int.reduceLT, Int.reduceToNat, Nat.reduceAdd, Nat.reduceEqDiff, Nat.reduceLT, Nat.reduceLeDiff, Nat.reduceMul, Nat.reduceSub, reduceCtorEq, tbAJb1, Try.results10, h1, h2, h4, h14, q1, q2, q4, q5, q6, q7, q8, q9, q10, q11, q12, q13, q14, q15, q17, q72, qb]
  refine fun b18 h18 => ?_; replace h18 := newb h18; try simp only [Nb] at h18
  simp only [↓rA, rB, Int.reduceLE, Int.reduceLT, Int.reduceToNat, Nat.reduceAdd, Nat.reduceEqDiff, Nat.reduceLT, Nat.reduceLeDiff, Nat.reduceMul, Nat.reduceSub, reduceCtorEq, tbAJb1, Try.results10, h1, h2, h4, h14, h18, q1, q2, q4, q5, q6, q7, q8, q9, q10, q11, q12, q13, q14, q15, q17, q72, qb]
  refine fun y1 => ?_
  refine OkF_le (.cons (Le.refl _) (.cons (show Le (.list (some y1) 8 [cRow (rowC strU 5)]) (vRows [rowC strU 5]) from Le.list _ _ _) .nil)) _ (sameRows_ok [rowC strU 5] [rowC strU 5] (by simp only [List.length_cons, List.length_nil]; omega) (fun r hr => by simp only [List.mem_cons, List.not_mem_nil, or_false] at hr; subst hr; exact (fitR_row _ _).okF)) ?_
  simp only [↓rA, rB, Int.reduceLE, Int.reduceLT, Int.reduceToNat, Nat.reduceAdd, Nat.reduceEqDiff, Nat.reduceLT, Nat.reduceLeDiff, Nat.reduceMul, Nat.reduceSub, reduceCtorEq, tbAJb1, Try.results10, h1, h2, h4, h14, h18, q1, q2, q4, q5, q6, q7, q8, q9, q10, q11, q12, q13, q14, q15, q17, qb]
  refine fun y2 => ?_
  refine OkF_le (.cons (Le.refl _) (.cons (show Le (.list (some y2) 1 [[vstr strU]]) (vstrs [strU]) from Le.list _ _ _) .nil)) _ (sameKeys_ok [strU] [strU] (by simp only [List.length_cons, List.length_nil]; omega)) ?_
  simp only [↓rA, rB, Int.reduceLE, Int.reduceLT, Int.reduceToNat, Nat.reduceAdd, Nat.reduceEqDiff, Nat.reduceLT, Nat.reduceLeDiff, Nat.reduceMul, Nat.reduceSub, reduceCtorEq, tbAJb1, Try.results10, h1, h2, h4, h14, h18, q1, q2, q4, q5, q6, q7, q8, q9, q10, q11, q12, q13, q14, q15, q17, qb]
  refine fun y3 => ?_
  refine OkF_le (.cons (Le.refl _) (.cons (show Le (.list (some y3) 1 [[vstr strV]]) (vstrs [strV]) from Le.list _ _ _) .nil)) _ (sameKeys_ok [strV] [strV] (by simp only [List.length_cons, List.length_nil]; omega)) ?_
  obtain ⟨ds, hg⟩ := hg
  have n1 : ((1 : Nat) : Int) = 1 := rfl
  have n2 : strV = ⟨#[118]⟩ := rfl
  simp only [↓rA, rB, Int.reduceLE, Int.reduceLT, Int.reduceToNat, Nat.reduceAdd, Nat.reduceEqDiff, Nat.reduceLT, Nat.reduceLeDiff, Nat.reduceMul, Nat.reduceSub, reduceCtorEq, tbAJb1, Try.results10, h1, h2, h4, h14, h18, hg, hs, n1, n2, q1, q2, q4, q5, q6, q7, q8, q9, q10, q11, q12, q13, q14, q15, q17, qb]
  exact ret_done rfl
theorem example_ok : OkP Try.prog 10 [] (vbool true) :=
  example_gen aEx bEx fit_aEx gs_aEx fit_bEx gs_bEx ex1 ex2 ex3 ex4 ex5 ex6 ex7 ⟨_, by rw [ex9]⟩ (by rw [ex9])
end Go.Proofs.Ytopfanlkbepemaa

