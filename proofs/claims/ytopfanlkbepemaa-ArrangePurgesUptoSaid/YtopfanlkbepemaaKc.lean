/- Merged out of my texts AHa AR AHb AHc AJa AIa AIb AGk. -/
import Derived.Test.YtopfanlkbepemaaKb
import Derived.Lib.Overlaps
set_option linter.unusedVariables false
/- Arrangements: contracts, the reference's rows at a tick. -/
set_option linter.unusedSimpArgs false
set_option maxRecDepth 100000
namespace Go.Proofs.Ytopfanlkbepemaa
open Go.VL Go.Ar Go.Proofs.Ytopfanlkbepemaa

set_option linter.defProp false in
def tbAHa0 := (And.intro (And.intro (And.intro (And.intro (And.intro (And.intro Ty.sz3 Ty.by3) (And.intro Ty.ag3 Ty.zr3)) (And.intro (And.intro Ty.un3 Ty.sz4) (And.intro Ty.by4 Ty.ag4))) (And.intro (And.intro (And.intro Ty.zr4 Ty.un4) (And.intro Ty.sz9 Ty.by9)) (And.intro (And.intro Ty.ag9 Ty.zr9) (And.intro Ty.un9 Ty.sz32)))) (And.intro (And.intro (And.intro (And.intro Ty.by32 Ty.ag32) (And.intro Ty.zr32 Ty.un32)) (And.intro (And.intro Ty.sz53 Ty.by53) (And.intro Ty.ag53 Ty.zr53))) (And.intro (And.intro (And.intro Ty.fl53_0 Ty.pl53_0) (And.intro Ty.fl53_1 Ty.pl53_1)) (And.intro (And.intro Ty.sz54 Ty.by54) (And.intro Ty.ag54 Ty.zr54))))) (And.intro (And.intro (And.intro (And.intro (And.intro Ty.un54 Ty.sz56) (And.intro Ty.by56 Ty.ag56)) (And.intro (And.intro Ty.zr56 Ty.fl56_0) (And.intro Ty.pl56_0 Ty.fl56_1))) (And.intro (And.intro (And.intro Ty.pl56_1 Ty.fl56_2) (And.intro Ty.pl56_2 Ty.fl56_3)) (And.intro (And.intro Ty.pl56_3 Ty.fl56_4) (And.intro Ty.pl56_4 Ty.fl56_5)))) (And.intro (And.intro (And.intro (And.intro Ty.pl56_5 Ty.fl56_6) (And.intro Ty.pl56_6 Ty.sz109)) (And.intro (And.intro Ty.by109 Ty.ag109) (And.intro Ty.zr109 Ty.fl109_0))) (And.intro (And.intro (And.intro Ty.pl109_0 Ty.fl109_1) (And.intro Ty.pl109_1 Ty.fl109_2)) (And.intro (And.intro Ty.pl109_2 Ty.eq53) (And.intro Ty.eq109 Ty.cb65))))))
theorem in20_ok (l : List Rw) (r : Rw) (hl : l.length ≤ big) (hf : ∀ x ∈ l, okF x) : OkP Try.prog 64 [vRows l, .agg (cRow r)] (vbool (decide (r ∈ l))) := by
  refine Ok.of_ex Ty.mixed Try.func64 rfl (by simp [Try.ntmps64]) (by kernel_rfl) fun F w0 I0 => ?_
  unfold big at hl
  simp only [↓ruleA0, ↓ruleA1, ↓ruleA2, ruleB0, ruleB1, ruleB2, ruleB3, ruleL, ↓retK, ncall, Todo_eq, packV, eqTB, litB, litV, fitL, fit, veqL, veq, sbin, sun, nilB, cellsV, oneB, okC, vals, fillV, partsE, Int.reduceLE, Int.reduceLT, Int.reduceToNat, Nat.reduceAdd, Nat.reduceEqDiff, Nat.reduceLT, Nat.reduceLeDiff, Nat.reduceMul, Nat.reduceSub, reduceCtorEq, tbAHa0, Try.results64]
  refine fun b1 h1 => ?_; replace h1 := newb h1; try simp only [Nb] at h1
  simp only [↓ruleA0, ↓ruleA1, ↓ruleA2, ruleB0, ruleB1, ruleB2, ruleB3, ruleL, ↓retK, ncall, Todo_eq, packV, eqTB, litB, litV, fitL, fit, veqL, veq, sbin, sun, nilB, cellsV, oneB, okC, vals, fillV, partsE, Int.reduceLE, Int.reduceLT, Int.reduceToNat, Nat.reduceAdd, Nat.reduceEqDiff, Nat.reduceLT, Nat.reduceLeDiff, Nat.reduceMul, Nat.reduceSub, reduceCtorEq, tbAHa0, Try.results64]
  refine EX_for Ty.mixed (by kernel_rfl) l.length (fun i S => (∀ j, (h : j < l.length) → j < i → l[j] ≠ r) ∧ S.σ 0 = vRows l ∧ S.σ 3 = ptr b1 ∧ S.σ 5 = vint i ∧ S.boxes = [(b1, .c (cRow r))] ∧ S.rows = []) ⟨0, by simp, ?_⟩ (fun i S hi ⟨ho, g0, g3, g5, gb, gr⟩ => ?_) (fun S ⟨ho, g0, g3, g5, gb, gr⟩ => ?_)
  · simp only [↓ruleA0, ↓ruleA1, ↓ruleA2, ruleB0, ruleB1, ruleB2, ruleB3, ruleL, ↓retK, ncall, Todo_eq, packV, eqTB, litB, litV, fitL, fit, veqL, veq, sbin, sun, nilB, cellsV, oneB, okC, vals, fillV, partsE, Int.reduceLE, Int.reduceLT, Int.reduceToNat, Nat.reduceAdd, Nat.reduceEqDiff, Nat.reduceLT, Nat.reduceLeDiff, Nat.reduceMul, Nat.reduceSub, reduceCtorEq, tbAHa0, Try.results64, List.length_map]
  · simp only [↓ruleA0, ↓ruleA1, ↓ruleA2, ruleB0, ruleB1, ruleB2, ruleB3, ruleL, ↓retK, ncall, Todo_eq, packV, eqTB, litB, litV, fitL, fit, veqL, veq, sbin, sun, nilB, cellsV, oneB, okC, vals, fillV, partsE, Int.reduceLE, Int.reduceLT, Int.reduceToNat, Nat.reduceAdd, Nat.reduceEqDiff, Nat.reduceLT, Nat.reduceLeDiff, Nat.reduceMul, Nat.reduceSub, reduceCtorEq, tbAHa0, Try.results64, g0, g3, g5, gb, gr, Int.ofNat_lt, hi, List.length_map, getD_map]
    refine CallV_of _ (cmpFull20_ok l[i] r (hf _ (List.getElem_mem hi))).v ?_
    by_cases he : cmpFull l[i] r = 0
    · simp only [↓ruleA0, ↓ruleA1, ↓ruleA2, ruleB0, ruleB1, ruleB2, ruleB3, ruleL, ↓retK, ncall, Todo_eq, packV, eqTB, litB, litV, fitL, fit, veqL, veq, sbin, sun, nilB, cellsV, oneB, okC, vals, fillV, partsE, Int.reduceLE, Int.reduceLT, Int.reduceToNat, Nat.reduceAdd, Nat.reduceEqDiff, Nat.reduceLT, Nat.reduceLeDiff, Nat.reduceMul, Nat.reduceSub, reduceCtorEq, tbAHa0, Try.results64, g0, g3, g5, gb, gr, he]
      have : r ∈ l := cmpFull_eq0.1 he ▸ List.getElem_mem hi
      exact ret_done (by simp [this])
    · simp only [↓ruleA0, ↓ruleA1, ↓ruleA2, ruleB0, ruleB1, ruleB2, ruleB3, ruleL, ↓retK, ncall, Todo_eq, packV, eqTB, litB, litV, fitL, fit, veqL, veq, sbin, sun, nilB, cellsV, oneB, okC, vals, fillV, partsE, Int.reduceLE, Int.reduceLT, Int.reduceToNat, Nat.reduceAdd, Nat.reduceEqDiff, Nat.reduceLT, Nat.reduceLeDiff, Nat.reduceMul, Nat.reduceSub, reduceCtorEq, tbAHa0, Try.results64, g0, g3, g5, gb, gr, he, wrap_succ hi (Nat.le_trans hl (by decide))]
      refine ⟨0, fun j h hj => ?_, rfl⟩
      by_cases e : j = i
      · subst e; exact fun h => he (cmpFull_eq0.2 h)
      · exact ho j h (by omega)
  · simp only [↓ruleA0, ↓ruleA1, ↓ruleA2, ruleB0, ruleB1, ruleB2, ruleB3, ruleL, ↓retK, ncall, Todo_eq, packV, eqTB, litB, litV, fitL, fit, veqL, veq, sbin, sun, nilB, cellsV, oneB, okC, vals, fillV, partsE, Int.reduceLE, Int.reduceLT, Int.reduceToNat, Nat.reduceAdd, Nat.reduceEqDiff, Nat.reduceLT, Nat.reduceLeDiff, Nat.reduceMul, Nat.reduceSub, reduceCtorEq, tbAHa0, Try.results64, g0, g3, g5, gb, gr, Int.ofNat_lt, Nat.lt_irrefl, List.length_map]
    have hno : ¬ r ∈ l := fun hx => by
      obtain ⟨j, hj, e⟩ := List.getElem_of_mem hx
      exact ho j hj hj e
    exact ret_done (by simp [hno])
set_option linter.defProp false in
def tbAHa1 := (And.intro (And.intro (And.intro (And.intro (And.intro (And.intro Ty.sz3 Ty.by3) (And.intro Ty.ag3 Ty.zr3)) (And.intro (And.intro Ty.un3 Ty.sz4) (And.intro Ty.by4 (And.intro Ty.ag4 Ty.zr4)))) (And.intro (And.intro (And.intro Ty.un4 Ty.sz9) (And.intro Ty.by9 Ty.ag9)) (And.intro (And.intro Ty.zr9 Ty.un9) (And.intro Ty.sz41 (And.intro Ty.by41 Ty.ag41))))) (And.intro (And.intro (And.intro (And.intro Ty.zr41 Ty.un41) (And.intro Ty.sz53 Ty.by53)) (And.intro (And.intro Ty.ag53 Ty.zr53) (And.intro Ty.fl53_0 (And.intro Ty.pl53_0 Ty.fl53_1)))) (And.intro (And.intro (And.intro Ty.pl53_1 Ty.sz54) (And.intro Ty.by54 (And.intro Ty.ag54 Ty.zr54))) (And.intro (And.intro Ty.un54 Ty.sz56) (And.intro Ty.by56 (And.intro Ty.ag56 Ty.zr56)))))) (And.intro (And.intro (And.intro (And.intro (And.intro Ty.fl56_0 Ty.pl56_0) (And.intro Ty.fl56_1 Ty.pl56_1)) (And.intro (And.intro Ty.fl56_2 Ty.pl56_2) (And.intro Ty.fl56_3 (And.intro Ty.pl56_3 Ty.fl56_4)))) (And.intro (And.intro (And.intro Ty.pl56_4 Ty.fl56_5) (And.intro Ty.pl56_5 Ty.fl56_6)) (And.intro (And.intro Ty.pl56_6 Ty.sz61) (And.intro Ty.by61 (And.intro Ty.ag61 Ty.zr61))))) (And.intro (And.intro (And.intro (And.intro Ty.fl61_0 Ty.pl61_0) (And.intro Ty.fl61_1 Ty.pl61_1)) (And.intro (And.intro Ty.fl61_2 Ty.pl61_2) (And.intro Ty.sz109 (And.intro Ty.by109 Ty.ag109)))) (And.intro (And.intro (And.intro Ty.zr109 Ty.fl109_0) (And.intro Ty.pl109_0 (And.intro Ty.fl109_1 Ty.pl109_1))) (And.intro (And.intro Ty.fl109_2 Ty.pl109_2) (And.intro Ty.eq53 (And.intro Ty.eq109 Ty.cb65)))))))
theorem count20_ok (d : List Dlt) (r : Rw) (t : Int) (hd : d.length ≤ big) (hf : ∀ x ∈ d, okF x.row) : OkP Try.prog 63 [vDlts d, .agg (cRow r), vint t] (vint (cntM d r t)) := by
  refine Ok.of_ex Ty.mixed Try.func63 rfl (by simp [Try.ntmps63]) (by kernel_rfl) fun F w0 I0 => ?_
  unfold big at hd
  simp only [↓ruleA0, ↓ruleA1, ↓ruleA2, ruleB0, ruleB1, ruleB2, ruleB3, ruleL, ↓retK, ncall, Todo_eq, packV, eqTB, litB, litV, fitL, fit, veqL, veq, sbin, sun, nilB, cellsV, oneB, okC, vals, fillV, partsE, Int.reduceLE, Int.reduceLT, Int.reduceToNat, Nat.reduceAdd, Nat.reduceEqDiff, Nat.reduceLT, Nat.reduceLeDiff, Nat.reduceMul, Nat.reduceSub, reduceCtorEq, tbAHa1, Try.results63]
  refine fun b1 h1 => ?_; replace h1 := newb h1; try simp only [Nb] at h1
  simp only [↓ruleA0, ↓ruleA1, ↓ruleA2, ruleB0, ruleB1, ruleB2, ruleB3, ruleL, ↓retK, ncall, Todo_eq, packV, eqTB, litB, litV, fitL, fit, veqL, veq, sbin, sun, nilB, cellsV, oneB, okC, vals, fillV, partsE, Int.reduceLE, Int.reduceLT, Int.reduceToNat, Nat.reduceAdd, Nat.reduceEqDiff, Nat.reduceLT, Nat.reduceLeDiff, Nat.reduceMul, Nat.reduceSub, reduceCtorEq, tbAHa1, Try.results63]
  refine EX_for Ty.mixed (by kernel_rfl) d.length (fun i S => S.σ 7 = vint (cntM (d.take i) r t) ∧ S.σ 0 = vDlts d ∧ S.σ 2 = vint t ∧ S.σ 4 = ptr b1 ∧ S.σ 8 = vint i ∧ S.boxes = [(b1, .c (cRow r))] ∧ S.rows = []) ⟨0, ?_⟩ (fun i S hi ⟨g7, g0, g2, g4, g8, gb, gr⟩ => ?_) (fun S ⟨g7, g0, g2, g4, g8, gb, gr⟩ => ?_)
  · simp only [↓ruleA0, ↓ruleA1, ↓ruleA2, ruleB0, ruleB1, ruleB2, ruleB3, ruleL, ↓retK, ncall, Todo_eq, packV, eqTB, litB, litV, fitL, fit, veqL, veq, sbin, sun, nilB, cellsV, oneB, okC, vals, fillV, partsE, Int.reduceLE, Int.reduceLT, Int.reduceToNat, Nat.reduceAdd, Nat.reduceEqDiff, Nat.reduceLT, Nat.reduceLeDiff, Nat.reduceMul, Nat.reduceSub, reduceCtorEq, tbAHa1, Try.results63, List.length_map]
    rfl
  · have hk := cntM_take d r t i hi
    by_cases ht : d[i].tick ≤ t
    · simp only [↓ruleA0, ↓ruleA1, ↓ruleA2, ruleB0, ruleB1, ruleB2, ruleB3, ruleL, ↓retK, ncall, Todo_eq, packV, eqTB, litB, litV, fitL, fit, veqL, veq, sbin, sun, nilB, cellsV, oneB, okC, vals, fillV, partsE, Int.reduceLE, Int.reduceLT, Int.reduceToNat, Nat.reduceAdd, Nat.reduceEqDiff, Nat.reduceLT, Nat.reduceLeDiff, Nat.reduceMul, Nat.reduceSub, reduceCtorEq, tbAHa1, Try.results63, g7, g0, g2, g4, g8, gb, gr, Int.ofNat_lt, hi, List.length_map, getD_map, ht]
      refine CallV_of _ (cmpFull20_ok d[i].row r (hf _ (List.getElem_mem hi))).v ?_
      by_cases he : cmpFull d[i].row r = 0
      · simp only [↓ruleA0, ↓ruleA1, ↓ruleA2, ruleB0, ruleB1, ruleB2, ruleB3, ruleL, ↓retK, ncall, Todo_eq, packV, eqTB, litB, litV, fitL, fit, veqL, veq, sbin, sun, nilB, cellsV, oneB, okC, vals, fillV, partsE, Int.reduceLE, Int.reduceLT, Int.reduceToNat, Nat.reduceAdd, Nat.reduceEqDiff, Nat.reduceLT, Nat.reduceLeDiff, Nat.reduceMul, Nat.reduceSub, reduceCtorEq, tbAHa1, Try.results63, g7, g0, g2, g4, g8, gb, gr, Int.ofNat_lt, hi, List.length_map, getD_map, ht, he, wrap_succ hi (Nat.le_trans hd (by decide))]
        refine ⟨0, ?_, rfl⟩
        rw [hk, if_pos ⟨ht, cmpFull_eq0.1 he⟩]
        rfl
      · simp only [↓ruleA0, ↓ruleA1, ↓ruleA2, ruleB0, ruleB1, ruleB2, ruleB3, ruleL, ↓retK, ncall, Todo_eq, packV, eqTB, litB, litV, fitL, fit, veqL, veq, sbin, sun, nilB, cellsV, oneB, okC, vals, fillV, partsE, Int.reduceLE, Int.reduceLT, Int.reduceToNat, Nat.reduceAdd, Nat.reduceEqDiff, Nat.reduceLT, Nat.reduceLeDiff, Nat.reduceMul, Nat.reduceSub, reduceCtorEq, tbAHa1, Try.results63, g7, g0, g2, g4, g8, gb, gr, Int.ofNat_lt, hi, List.length_map, getD_map, ht, he, wrap_succ hi (Nat.le_trans hd (by decide))]
        refine ⟨0, ?_, rfl⟩
        rw [hk, if_neg fun h => he (cmpFull_eq0.2 h.2)]
    · simp only [↓ruleA0, ↓ruleA1, ↓ruleA2, ruleB0, ruleB1, ruleB2, ruleB3, ruleL, ↓retK, ncall, Todo_eq, packV, eqTB, litB, litV, fitL, fit, veqL, veq, sbin, sun, nilB, cellsV, oneB, okC, vals, fillV, partsE, Int.reduceLE, Int.reduceLT, Int.reduceToNat, Nat.reduceAdd, Nat.reduceEqDiff, Nat.reduceLT, Nat.reduceLeDiff, Nat.reduceMul, Nat.reduceSub, reduceCtorEq, tbAHa1, Try.results63, g7, g0, g2, g4, g8, gb, gr, Int.ofNat_lt, hi, List.length_map, getD_map, ht, wrap_succ hi (Nat.le_trans hd (by decide))]
      refine ⟨0, ?_, rfl⟩
      rw [hk, if_neg fun h => ht h.1]
  · simp only [↓ruleA0, ↓ruleA1, ↓ruleA2, ruleB0, ruleB1, ruleB2, ruleB3, ruleL, ↓retK, ncall, Todo_eq, packV, eqTB, litB, litV, fitL, fit, veqL, veq, sbin, sun, nilB, cellsV, oneB, okC, vals, fillV, partsE, Int.reduceLE, Int.reduceLT, Int.reduceToNat, Nat.reduceAdd, Nat.reduceEqDiff, Nat.reduceLT, Nat.reduceLeDiff, Nat.reduceMul, Nat.reduceSub, reduceCtorEq, tbAHa1, Try.results63, g7, g0, g2, g4, g8, gb, gr, Int.ofNat_lt, Nat.lt_irrefl, List.length_map]
    rw [List.take_of_length_le (Nat.le_refl _)]
    exact ret_done rfl

def step20 (d : List Dlt) (t : Int) (l : List Rw) (x : Dlt) : List Rw := if cntM d x.row t ≤ 0 ∨ x.row ∈ l then l else insR l x.row
def at20' (d : List Dlt) (t : Int) (i : Nat) : List Rw := (d.take i).foldl (step20 d t) []
theorem at20_take (d : List Dlt) (t : Int) (i : Nat) (h : i < d.length) : at20' d t (i + 1) = step20 d t (at20' d t i) d[i] := by
  unfold at20'; rw [List.take_succ_eq_append_getElem h, List.foldl_append]; rfl
theorem step20_len (d : List Dlt) (t : Int) (l : List Rw) (x : Dlt) : (step20 d t l x).length ≤ l.length + 1 := by
  unfold step20
  split
  · omega
  · rw [insR_len]; exact Nat.le_refl _
theorem at20_len (d : List Dlt) (t : Int) : ∀ i, i ≤ d.length → (at20' d t i).length ≤ i
  | 0, _ => by simp [at20']
  | i + 1, h => by
    rw [at20_take d t i h]
    have := at20_len d t i (by omega)
    have := step20_len d t (at20' d t i) d[i]
    omega
theorem at20_memF (d : List Dlt) (t : Int) (hf : ∀ x ∈ d, okF x.row) : ∀ i, i ≤ d.length → ∀ r ∈ at20' d t i, okF r
  | 0, _ => by simp [at20']
  | i + 1, h => by
    intro r hr
    rw [at20_take d t i h] at hr
    unfold step20 at hr
    split at hr
    · exact at20_memF d t hf i (by omega) r hr
    · rcases insR_mem.1 hr with rfl | hr
      · exact hf _ (List.getElem_mem h)
      · exact at20_memF d t hf i (by omega) r hr
set_option linter.defProp false in
def tbAHa2 := (And.intro (And.intro (And.intro (And.intro (And.intro (And.intro Ty.sz3 Ty.by3) (And.intro Ty.ag3 (And.intro Ty.zr3 Ty.un3))) (And.intro (And.intro Ty.sz4 Ty.by4) (And.intro Ty.ag4 (And.intro Ty.zr4 Ty.un4)))) (And.intro (And.intro (And.intro Ty.sz9 Ty.by9) (And.intro Ty.ag9 (And.intro Ty.zr9 Ty.un9))) (And.intro (And.intro Ty.sz32 Ty.by32) (And.intro Ty.ag32 (And.intro Ty.zr32 Ty.un32))))) (And.intro (And.intro (And.intro (And.intro Ty.sz41 Ty.by41) (And.intro Ty.ag41 (And.intro Ty.zr41 Ty.un41))) (And.intro (And.intro Ty.sz53 Ty.by53) (And.intro Ty.ag53 (And.intro Ty.zr53 Ty.fl53_0)))) (And.intro (And.intro (And.intro Ty.pl53_0 Ty.fl53_1) (And.intro Ty.pl53_1 (And.intro Ty.sz54 Ty.by54))) (And.intro (And.intro Ty.ag54 Ty.zr54) (And.intro Ty.un54 (And.intro Ty.sz56 Ty.by56)))))) (And.intro (And.intro (And.intro (And.intro (And.intro Ty.ag56 Ty.zr56) (And.intro Ty.fl56_0 (And.intro Ty.pl56_0 Ty.fl56_1))) (And.intro (And.intro Ty.pl56_1 Ty.fl56_2) (And.intro Ty.pl56_2 (And.intro Ty.fl56_3 Ty.pl56_3)))) (And.intro (And.intro (And.intro Ty.fl56_4 Ty.pl56_4) (And.intro Ty.fl56_5 (And.intro Ty.pl56_5 Ty.fl56_6))) (And.intro (And.intro Ty.pl56_6 Ty.sz61) (And.intro Ty.by61 (And.intro Ty.ag61 Ty.zr61))))) (And.intro (And.intro (And.intro (And.intro Ty.fl61_0 Ty.pl61_0) (And.intro Ty.fl61_1 (And.intro Ty.pl61_1 Ty.fl61_2))) (And.intro (And.intro Ty.pl61_2 Ty.sz109) (And.intro Ty.by109 (And.intro Ty.ag109 Ty.zr109)))) (And.intro (And.intro (And.intro Ty.fl109_0 Ty.pl109_0) (And.intro Ty.fl109_1 (And.intro Ty.pl109_1 Ty.fl109_2))) (And.intro (And.intro Ty.pl109_2 (And.intro Ty.eq53 Ty.eq109)) (And.intro Ty.cb63 (And.intro Ty.cb64 Ty.cb65)))))))
theorem at20_ok (d : List Dlt) (t : Int) (hd : d.length ≤ big) (hf : ∀ x ∈ d, okF x.row) : OkRow Try.prog 44 [vDlts d, vint t] 8 56 ((at20 d t).map cRow) := by
  refine Ok.of_exM [(10, 4)] Ty.mixed Try.func44 rfl (by simp [Try.ntmps44]) (by kernel_rfl) fun F w0 I0 => ?_
  unfold big at hd
  simp only [↓ruleA0, ↓ruleA1, ↓ruleA2, ruleB0, ruleB1, ruleB2, ruleB3, ruleL, ↓retK, ncall, Todo_eq, packV, eqTB, litB, litV, fitL, fit, veqL, veq, sbin, sun, nilB, cellsV, oneB, okC, vals, fillV, partsE, Int.reduceLE, Int.reduceLT, Int.reduceToNat, Nat.reduceAdd, Nat.reduceEqDiff, Nat.reduceLT, Nat.reduceLeDiff, Nat.reduceMul, Nat.reduceSub, reduceCtorEq, tbAHa2, Try.results44]
  refine AWP.nilRow 5 8 56 (by simp only [↓ruleA0, ↓ruleA1, ↓ruleA2, ruleB0, ruleB1, ruleB2, ruleB3, ruleL, ↓retK, ncall, Todo_eq, packV, eqTB, litB, litV, fitL, fit, veqL, veq, sbin, sun, nilB, cellsV, oneB, okC, vals, fillV, partsE, Int.reduceLE, Int.reduceLT, Int.reduceToNat, Nat.reduceAdd, Nat.reduceEqDiff, Nat.reduceLT, Nat.reduceLeDiff, Nat.reduceMul, Nat.reduceSub, reduceCtorEq, tbAHa2, Try.results44]) (by decide) ?_
  refine EX_forS Ty.mixed (by kernel_rfl) d.length (fun i S => ∃ y, S.σ 5 = .list (some y) 8 ((at20' d t i).map cRow) ∧ S.rows = [⟨y, 8, 56⟩] ∧ S.σ 0 = vDlts d ∧ S.σ 1 = vint t ∧ S.σ 6 = vint i ∧ S.boxes = []) ⟨_, _, List.Sublist.refl _, List.Sublist.refl _, nilv, ?_⟩ (fun i S hi ⟨y, g5, gr, g0, g1, g6, gb⟩ => ?_) (fun S ⟨y, g5, gr, g0, g1, g6, gb⟩ => ?_)
  · simp only [↓ruleA0, ↓ruleA1, ↓ruleA2, ruleB0, ruleB1, ruleB2, ruleB3, ruleL, ↓retK, ncall, Todo_eq, packV, eqTB, litB, litV, fitL, fit, veqL, veq, sbin, sun, nilB, cellsV, oneB, okC, vals, fillV, partsE, Int.reduceLE, Int.reduceLT, Int.reduceToNat, Nat.reduceAdd, Nat.reduceEqDiff, Nat.reduceLT, Nat.reduceLeDiff, Nat.reduceMul, Nat.reduceSub, reduceCtorEq, tbAHa2, Try.results44]
    simp [at20']
  · have hk := at20_take d t i hi
    have hlen := at20_len d t i (by omega)
    have hmf := at20_memF d t hf i (by omega)
    generalize hl : at20' d t i = l at g5 hk hlen hmf
    generalize hr : d[i].row = r
    have hrf : okF r := hr ▸ hf _ (List.getElem_mem hi)
    have hstep : step20 d t l d[i] = if cntM d r t ≤ 0 ∨ r ∈ l then l else insR l r := by unfold step20; rw [hr]
    simp only [↓ruleA0, ↓ruleA1, ↓ruleA2, ruleB0, ruleB1, ruleB2, ruleB3, ruleL, ↓retK, ncall, Todo_eq, packV, eqTB, litB, litV, fitL, fit, veqL, veq, sbin, sun, nilB, cellsV, oneB, okC, vals, fillV, partsE, Int.reduceLE, Int.reduceLT, Int.reduceToNat, Nat.reduceAdd, Nat.reduceEqDiff, Nat.reduceLT, Nat.reduceLeDiff, Nat.reduceMul, Nat.reduceSub, reduceCtorEq, tbAHa2, Try.results44, g5, gr, g0, g1, g6, gb, Int.ofNat_lt, hi, List.length_map, getD_map, hr]
    refine fun b7 h7 => ?_; replace h7 := newb h7; try simp only [Nb] at h7
    simp only [↓ruleA0, ↓ruleA1, ↓ruleA2, ruleB0, ruleB1, ruleB2, ruleB3, ruleL, ↓retK, ncall, Todo_eq, packV, eqTB, litB, litV, fitL, fit, veqL, veq, sbin, sun, nilB, cellsV, oneB, okC, vals, fillV, partsE, Int.reduceLE, Int.reduceLT, Int.reduceToNat, Nat.reduceAdd, Nat.reduceEqDiff, Nat.reduceLT, Nat.reduceLeDiff, Nat.reduceMul, Nat.reduceSub, reduceCtorEq, tbAHa2, Try.results44, g5, gr, g0, g1, g6, gb, h7]
    refine OkF_of _ (count20_ok d r t hd hf) ?_
    by_cases hc : cntM d r t ≤ 0
    · simp only [↓ruleA0, ↓ruleA1, ↓ruleA2, ruleB0, ruleB1, ruleB2, ruleB3, ruleL, ↓retK, ncall, Todo_eq, packV, eqTB, litB, litV, fitL, fit, veqL, veq, sbin, sun, nilB, cellsV, oneB, okC, vals, fillV, partsE, Int.reduceLE, Int.reduceLT, Int.reduceToNat, Nat.reduceAdd, Nat.reduceEqDiff, Nat.reduceLT, Nat.reduceLeDiff, Nat.reduceMul, Nat.reduceSub, reduceCtorEq, tbAHa2, Try.results44, g5, gr, g0, g1, g6, gb, h7, hc, wrap_succ hi (Nat.le_trans hd (by decide))]
      refine ⟨_, _, List.nil_sublist _, List.Sublist.refl _, y, ?_⟩
      simp only [↓ruleA0, ↓ruleA1, ↓ruleA2, ruleB0, ruleB1, ruleB2, ruleB3, ruleL, ↓retK, ncall, Todo_eq, packV, eqTB, litB, litV, fitL, fit, veqL, veq, sbin, sun, nilB, cellsV, oneB, okC, vals, fillV, partsE, Int.reduceLE, Int.reduceLT, Int.reduceToNat, Nat.reduceAdd, Nat.reduceEqDiff, Nat.reduceLT, Nat.reduceLeDiff, Nat.reduceMul, Nat.reduceSub, reduceCtorEq, tbAHa2, Try.results44, g5, gr, g0, g1, g6, gb, h7, hc, wrap_succ hi (Nat.le_trans hd (by decide))]
      rw [hk, hstep, if_pos (.inl hc)]
    · simp only [↓ruleA0, ↓ruleA1, ↓ruleA2, ruleB0, ruleB1, ruleB2, ruleB3, ruleL, ↓retK, ncall, Todo_eq, packV, eqTB, litB, litV, fitL, fit, veqL, veq, sbin, sun, nilB, cellsV, oneB, okC, vals, fillV, partsE, Int.reduceLE, Int.reduceLT, Int.reduceToNat, Nat.reduceAdd, Nat.reduceEqDiff, Nat.reduceLT, Nat.reduceLeDiff, Nat.reduceMul, Nat.reduceSub, reduceCtorEq, tbAHa2, Try.results44, g5, gr, g0, g1, g6, gb, h7, hc]
      refine OkF_le (.cons (Le.list _ _ _) (.cons (Le.refl _) .nil)) _ (in20_ok l r (Nat.le_trans hlen (Nat.le_trans (Nat.le_of_lt hi) hd)) hmf) ?_
      by_cases hin : r ∈ l
      · simp only [↓ruleA0, ↓ruleA1, ↓ruleA2, ruleB0, ruleB1, ruleB2, ruleB3, ruleL, ↓retK, ncall, Todo_eq, packV, eqTB, litB, litV, fitL, fit, veqL, veq, sbin, sun, nilB, cellsV, oneB, okC, vals, fillV, partsE, Int.reduceLE, Int.reduceLT, Int.reduceToNat, Nat.reduceAdd, Nat.reduceEqDiff, Nat.reduceLT, Nat.reduceLeDiff, Nat.reduceMul, Nat.reduceSub, reduceCtorEq, tbAHa2, Try.results44, g5, gr, g0, g1, g6, gb, h7, hc, hin, wrap_succ hi (Nat.le_trans hd (by decide))]
        refine ⟨_, _, List.nil_sublist _, List.Sublist.refl _, y, ?_⟩
        simp only [↓ruleA0, ↓ruleA1, ↓ruleA2, ruleB0, ruleB1, ruleB2, ruleB3, ruleL, ↓retK, ncall, Todo_eq, packV, eqTB, litB, litV, fitL, fit, veqL, veq, sbin, sun, nilB, cellsV, oneB, okC, vals, fillV, partsE, Int.reduceLE, Int.reduceLT, Int.reduceToNat, Nat.reduceAdd, Nat.reduceEqDiff, Nat.reduceLT, Nat.reduceLeDiff, Nat.reduceMul, Nat.reduceSub, reduceCtorEq, tbAHa2, Try.results44, g5, gr, g0, g1, g6, gb, h7, hc, wrap_succ hi (Nat.le_trans hd (by decide))]
        rw [hk, hstep, if_pos (.inr hin)]
      · simp only [↓ruleA0, ↓ruleA1, ↓ruleA2, ruleB0, ruleB1, ruleB2, ruleB3, ruleL, ↓retK, ncall, Todo_eq, packV, eqTB, litB, litV, fitL, fit, veqL, veq, sbin, sun, nilB, cellsV, oneB, okC, vals, fillV, partsE, Int.reduceLE, Int.reduceLT, Int.reduceToNat, Nat.reduceAdd, Nat.reduceEqDiff, Nat.reduceLT, Nat.reduceLeDiff, Nat.reduceMul, Nat.reduceSub, reduceCtorEq, tbAHa2, Try.results44, g5, gr, g0, g1, g6, gb, h7, hc, hin]
        rw [if_neg (not_or.2 ⟨hc, hin⟩)] at hstep
        refine EX_while Ty.mixed (by kernel_rfl) (fun j => l.length - j) (fun j S => (j ≤ l.length ∧ ∀ k, (h : k < l.length) → k < j → cmpFull l[k] r < 0) ∧ S.σ 8 = vint j ∧ S.σ 5 = .list (some y) 8 (l.map cRow) ∧ S.σ 7 = ptr b7 ∧ S.rows = [⟨y, 8, 56⟩] ∧ S.σ 0 = vDlts d ∧ S.σ 1 = vint t ∧ S.σ 6 = vint i ∧ S.boxes = [(b7, .c (cRow r))]) 0 ⟨0, ?_⟩ fun j S ⟨⟨hj, ho⟩, g8, g5, g7, gr, g0, g1, g6, gb⟩ => ?_
        · simp only [↓ruleA0, ↓ruleA1, ↓ruleA2, ruleB0, ruleB1, ruleB2, ruleB3, ruleL, ↓retK, ncall, Todo_eq, packV, eqTB, litB, litV, fitL, fit, veqL, veq, sbin, sun, nilB, cellsV, oneB, okC, vals, fillV, partsE, Int.reduceLE, Int.reduceLT, Int.reduceToNat, Nat.reduceAdd, Nat.reduceEqDiff, Nat.reduceLT, Nat.reduceLeDiff, Nat.reduceMul, Nat.reduceSub, reduceCtorEq, tbAHa2, Try.results44, g5, gr, g0, g1, g6, gb]
          try simp
        · have fin : ∀ y1, (∀ h : j < l.length, ¬ cmpFull l[j] r < 0) → V.list (some y1) 8 (List.take j (l.map cRow) ++ (cRow r :: List.drop j (l.map cRow))) = .list (some y1) 8 ((at20' d t (i + 1)).map cRow) := fun y1 h1 => by
            rw [hk, hstep, insR_at r l j hj (fun k h hkj => decide_eq_true (ho k h hkj)) (fun h => by simpa using h1 h)]
            simp [List.map_take, List.map_drop]
          by_cases hjl : j < l.length
          · by_cases hlt : cmpFull l[j] r < 0
            · simp only [↓ruleA0, ↓ruleA1, ↓ruleA2, ruleB0, ruleB1, ruleB2, ruleB3, ruleL, ↓retK, ncall, Todo_eq, packV, eqTB, litB, litV, fitL, fit, veqL, veq, sbin, sun, nilB, cellsV, oneB, okC, vals, fillV, partsE, Int.reduceLE, Int.reduceLT, Int.reduceToNat, Nat.reduceAdd, Nat.reduceEqDiff, Nat.reduceLT, Nat.reduceLeDiff, Nat.reduceMul, Nat.reduceSub, reduceCtorEq, tbAHa2, Try.results44, g8, g5, g7, gr, g0, g1, g6, gb, Int.ofNat_lt, hjl, List.length_map, getD_map]
              refine CallV_of _ (cmpFull20_ok l[j] r (hmf _ (List.getElem_mem hjl))).v ?_
              simp only [↓ruleA0, ↓ruleA1, ↓ruleA2, ruleB0, ruleB1, ruleB2, ruleB3, ruleL, ↓retK, ncall, Todo_eq, packV, eqTB, litB, litV, fitL, fit, veqL, veq, sbin, sun, nilB, cellsV, oneB, okC, vals, fillV, partsE, Int.reduceLE, Int.reduceLT, Int.reduceToNat, Nat.reduceAdd, Nat.reduceEqDiff, Nat.reduceLT, Nat.reduceLeDiff, Nat.reduceMul, Nat.reduceSub, reduceCtorEq, tbAHa2, Try.results44, g8, g5, g7, gr, g0, g1, g6, gb, hlt, wrap_succ hjl (show l.length ≤ 9223372036854775807 by omega)]
              refine ⟨j + 1, by omega, 0, ⟨by omega, fun k h hkj => ?_⟩, rfl, rfl⟩
              by_cases e : k = j
              · subst e; exact hlt
              · exact ho k h (by omega)
            · simp only [↓ruleA0, ↓ruleA1, ↓ruleA2, ruleB0, ruleB1, ruleB2, ruleB3, ruleL, ↓retK, ncall, Todo_eq, packV, eqTB, litB, litV, fitL, fit, veqL, veq, sbin, sun, nilB, cellsV, oneB, okC, vals, fillV, partsE, Int.reduceLE, Int.reduceLT, Int.reduceToNat, Nat.reduceAdd, Nat.reduceEqDiff, Nat.reduceLT, Nat.reduceLeDiff, Nat.reduceMul, Nat.reduceSub, reduceCtorEq, tbAHa2, Try.results44, g8, g5, g7, gr, g0, g1, g6, gb, Int.ofNat_lt, hjl, List.length_map, getD_map]
              refine CallV_of _ (cmpFull20_ok l[j] r (hmf _ (List.getElem_mem hjl))).v ?_
              simp only [↓ruleA0, ↓ruleA1, ↓ruleA2, ruleB0, ruleB1, ruleB2, ruleB3, ruleL, ↓retK, ncall, Todo_eq, packV, eqTB, litB, litV, fitL, fit, veqL, veq, sbin, sun, nilB, cellsV, oneB, okC, vals, fillV, partsE, Int.reduceLE, Int.reduceLT, Int.reduceToNat, Nat.reduceAdd, Nat.reduceEqDiff, Nat.reduceLT, Nat.reduceLeDiff, Nat.reduceMul, Nat.reduceSub, reduceCtorEq, tbAHa2, Try.results44, g8, g5, g7, gr, g0, g1, g6, gb, Int.ofNat_lt, hj, hlt, List.length_map, getD_map]
              refine fun y1 => takeRF_1 ?_
              simp only [↓ruleA0, ↓ruleA1, ↓ruleA2, ruleB0, ruleB1, ruleB2, ruleB3, ruleL, ↓retK, ncall, Todo_eq, packV, eqTB, litB, litV, fitL, fit, veqL, veq, sbin, sun, nilB, cellsV, oneB, okC, vals, fillV, partsE, Int.reduceLE, Int.reduceLT, Int.reduceToNat, Nat.reduceAdd, Nat.reduceEqDiff, Nat.reduceLT, Nat.reduceLeDiff, Nat.reduceMul, Nat.reduceSub, reduceCtorEq, tbAHa2, Try.results44, g8, g5, g7, gr, g0, g1, g6, gb, Int.ofNat_lt, hj, List.length_map]
              refine ⟨(by first | omega | (simp; omega)), fun y2 y3 => ?_⟩
              refine takeRF_1 ?_
              simp only [↓ruleA0, ↓ruleA1, ↓ruleA2, ruleB0, ruleB1, ruleB2, ruleB3, ruleL, ↓retK, ncall, Todo_eq, packV, eqTB, litB, litV, fitL, fit, veqL, veq, sbin, sun, nilB, cellsV, oneB, okC, vals, fillV, partsE, Int.reduceLE, Int.reduceLT, Int.reduceToNat, Nat.reduceAdd, Nat.reduceEqDiff, Nat.reduceLT, Nat.reduceLeDiff, Nat.reduceMul, Nat.reduceSub, reduceCtorEq, tbAHa2, Try.results44, g8, g5, g7, gr, g0, g1, g6, gb, Int.ofNat_lt, hj, List.length_map]
              refine ⟨(by first | omega | (simp; omega)), fun y4 => takeRF_1 ?_⟩
              simp only [↓ruleA0, ↓ruleA1, ↓ruleA2, ruleB0, ruleB1, ruleB2, ruleB3, ruleL, ↓retK, ncall, Todo_eq, packV, eqTB, litB, litV, fitL, fit, veqL, veq, sbin, sun, nilB, cellsV, oneB, okC, vals, fillV, partsE, Int.reduceLE, Int.reduceLT, Int.reduceToNat, Nat.reduceAdd, Nat.reduceEqDiff, Nat.reduceLT, Nat.reduceLeDiff, Nat.reduceMul, Nat.reduceSub, reduceCtorEq, tbAHa2, Try.results44, g8, g5, g7, gr, g0, g1, g6, gb, Int.ofNat_lt, hj, List.length_map, wrap_succ hi (Nat.le_trans hd (by decide))]
              refine ⟨(by first | omega | (simp; omega)), fun y5 => ⟨_, [_], List.nil_sublist _, List.Sublist.cons_cons _ (List.nil_sublist _), y5, ?_⟩⟩
              simp only [↓ruleA0, ↓ruleA1, ↓ruleA2, ruleB0, ruleB1, ruleB2, ruleB3, ruleL, ↓retK, ncall, Todo_eq, packV, eqTB, litB, litV, fitL, fit, veqL, veq, sbin, sun, nilB, cellsV, oneB, okC, vals, fillV, partsE, Int.reduceLE, Int.reduceLT, Int.reduceToNat, Nat.reduceAdd, Nat.reduceEqDiff, Nat.reduceLT, Nat.reduceLeDiff, Nat.reduceMul, Nat.reduceSub, reduceCtorEq, tbAHa2, Try.results44, g8, g5, g7, gr, g0, g1, g6, gb, Int.ofNat_lt, hj, List.length_map, wrap_succ hi (Nat.le_trans hd (by decide))]
              exact fin y5 (fun _ => hlt)
          · simp only [↓ruleA0, ↓ruleA1, ↓ruleA2, ruleB0, ruleB1, ruleB2, ruleB3, ruleL, ↓retK, ncall, Todo_eq, packV, eqTB, litB, litV, fitL, fit, veqL, veq, sbin, sun, nilB, cellsV, oneB, okC, vals, fillV, partsE, Int.reduceLE, Int.reduceLT, Int.reduceToNat, Nat.reduceAdd, Nat.reduceEqDiff, Nat.reduceLT, Nat.reduceLeDiff, Nat.reduceMul, Nat.reduceSub, reduceCtorEq, tbAHa2, Try.results44, g8, g5, g7, gr, g0, g1, g6, gb, Int.ofNat_lt, hj, hjl, List.length_map, getD_map]
            refine fun y1 => takeRF_1 ?_
            simp only [↓ruleA0, ↓ruleA1, ↓ruleA2, ruleB0, ruleB1, ruleB2, ruleB3, ruleL, ↓retK, ncall, Todo_eq, packV, eqTB, litB, litV, fitL, fit, veqL, veq, sbin, sun, nilB, cellsV, oneB, okC, vals, fillV, partsE, Int.reduceLE, Int.reduceLT, Int.reduceToNat, Nat.reduceAdd, Nat.reduceEqDiff, Nat.reduceLT, Nat.reduceLeDiff, Nat.reduceMul, Nat.reduceSub, reduceCtorEq, tbAHa2, Try.results44, g8, g5, g7, gr, g0, g1, g6, gb, Int.ofNat_lt, hj, List.length_map]
            refine ⟨(by first | omega | (simp; omega)), fun y2 y3 => ?_⟩
            refine takeRF_1 ?_
            simp only [↓ruleA0, ↓ruleA1, ↓ruleA2, ruleB0, ruleB1, ruleB2, ruleB3, ruleL, ↓retK, ncall, Todo_eq, packV, eqTB, litB, litV, fitL, fit, veqL, veq, sbin, sun, nilB, cellsV, oneB, okC, vals, fillV, partsE, Int.reduceLE, Int.reduceLT, Int.reduceToNat, Nat.reduceAdd, Nat.reduceEqDiff, Nat.reduceLT, Nat.reduceLeDiff, Nat.reduceMul, Nat.reduceSub, reduceCtorEq, tbAHa2, Try.results44, g8, g5, g7, gr, g0, g1, g6, gb, Int.ofNat_lt, hj, List.length_map]
            refine ⟨(by first | omega | (simp; omega)), fun y4 => takeRF_1 ?_⟩
            simp only [↓ruleA0, ↓ruleA1, ↓ruleA2, ruleB0, ruleB1, ruleB2, ruleB3, ruleL, ↓retK, ncall, Todo_eq, packV, eqTB, litB, litV, fitL, fit, veqL, veq, sbin, sun, nilB, cellsV, oneB, okC, vals, fillV, partsE, Int.reduceLE, Int.reduceLT, Int.reduceToNat, Nat.reduceAdd, Nat.reduceEqDiff, Nat.reduceLT, Nat.reduceLeDiff, Nat.reduceMul, Nat.reduceSub, reduceCtorEq, tbAHa2, Try.results44, g8, g5, g7, gr, g0, g1, g6, gb, Int.ofNat_lt, hj, List.length_map, wrap_succ hi (Nat.le_trans hd (by decide))]
            refine ⟨(by first | omega | (simp; omega)), fun y5 => ⟨_, [_], List.nil_sublist _, List.Sublist.cons_cons _ (List.nil_sublist _), y5, ?_⟩⟩
            simp only [↓ruleA0, ↓ruleA1, ↓ruleA2, ruleB0, ruleB1, ruleB2, ruleB3, ruleL, ↓retK, ncall, Todo_eq, packV, eqTB, litB, litV, fitL, fit, veqL, veq, sbin, sun, nilB, cellsV, oneB, okC, vals, fillV, partsE, Int.reduceLE, Int.reduceLT, Int.reduceToNat, Nat.reduceAdd, Nat.reduceEqDiff, Nat.reduceLT, Nat.reduceLeDiff, Nat.reduceMul, Nat.reduceSub, reduceCtorEq, tbAHa2, Try.results44, g8, g5, g7, gr, g0, g1, g6, gb, Int.ofNat_lt, hj, List.length_map, wrap_succ hi (Nat.le_trans hd (by decide))]
            exact fin y5 (fun h => absurd h hjl)
  · simp only [↓ruleA0, ↓ruleA1, ↓ruleA2, ruleB0, ruleB1, ruleB2, ruleB3, ruleL, ↓retK, ncall, Todo_eq, packV, eqTB, litB, litV, fitL, fit, veqL, veq, sbin, sun, nilB, cellsV, oneB, okC, vals, fillV, partsE, Int.reduceLE, Int.reduceLT, Int.reduceToNat, Nat.reduceAdd, Nat.reduceEqDiff, Nat.reduceLT, Nat.reduceLeDiff, Nat.reduceMul, Nat.reduceSub, reduceCtorEq, tbAHa2, Try.results44, g5, gr, g0, g1, g6, gb, Int.ofNat_lt, Nat.lt_irrefl, List.length_map]
    have : at20' d t d.length = at20 d t := by unfold at20'; rw [List.take_of_length_le (Nat.le_refl _)]; rfl
    rw [this]
    exact ret_row
end Go.Proofs.Ytopfanlkbepemaa

/- Arrangements: tuples and structs known less; what the operations come to. -/
namespace Go.Proofs.Ytopfanlkbepemaa
open Go.VL Go.Ar Go.Proofs.Ytopfanlkbepemaa

theorem Le.tup {l l' : List V} (h : LeL l l') : Le (.tup l) (.tup l') := by
  intro w I x hx
  simp only [V.rep] at hx ⊢
  obtain ⟨xs, h1, h2⟩ := hx
  exact ⟨xs, h1, h.reps h2⟩
theorem Le.agg {l l' : List V} (h : LeL l l') : Le (.agg l) (.agg l') := by
  intro w I x hx
  simp only [V.rep] at hx ⊢
  obtain ⟨xs, h1, h2⟩ := hx
  exact ⟨xs, h1, h.reps h2⟩
theorem Le.arr (s : Int) (y : Option Value) (gs : List Grp) : Le (.agg [vint s, .list y 2 (gs.map cGrp)]) (vArr ⟨s, gs⟩) := Le.agg (.cons (Le.refl _) (.cons (Le.list _ _ _) .nil))
theorem Le.arr0 (s : Int) : Le (.agg [vint s, nilS]) (vArr ⟨s, []⟩) := Le.agg (.cons (Le.refl _) (.cons (Le.nil 2) .nil))
theorem Le.two {a b a' b' : V} (h : Le a a') (h' : Le b b') : Le (.tup [a, b]) (.tup [a', b']) := Le.tup (.cons h (.cons h' .nil))

def arr0 : Arr := ⟨0, []⟩
def lateB (a : Arr) (d : List Dlt) : Bool := d.any fun x => decide (x.tick < a.since)
def insA (a : Arr) (d : List Dlt) : Arr × Int := if lateB a d = true then (arr0, 220) else (ofM a.since (allD a.groups ++ d), 0)
def advA (a : Arr) (s : Int) : Arr × Int := if maxT < s then (arr0, 1) else if s < a.since then (arr0, 220) else (ofM s (advD s (allD a.groups)), 0)
def purA (a : Arr) (ids : List FID) : Arr := ofM a.since (purgeM (allD a.groups) ids)
abbrev vRes (p : Arr × Int) : V := .tup [vArr p.1, vint p.2]
def inI (lo hi : Int) (r : Rw) : Bool := decide (lo ≤ r.event) && decide (r.event ≤ hi)
def rowsL (l : List Grp) (k : Str) (lo hi t : Int) : List Rw := l.flatMap fun g => if g.key = k then (rowsAt g.ds t).filter (inI lo hi) else []
def rowsA (a : Arr) (k : Str) (lo hi t : Int) : List Rw × Int := if t < a.since then ([], 220) else (rowsK a k lo hi t, 0)
def keysA (a : Arr) (t : Int) : List Str × Int := if t < a.since then ([], 220) else (keysP a.groups t, 0)
abbrev vRows2 (p : List Rw × Int) : V := .tup [vRows p.1, vint p.2]
abbrev vKeys2 (p : List Str × Int) : V := .tup [vstrs p.1, vint p.2]
theorem rowsL_eq {a : Arr} (h : GsOk a.groups) (k : Str) (lo hi t : Int) : rowsL a.groups k lo hi t = rowsK a k lo hi t := by
  unfold rowsK
  have : ∀ l : List Grp, GsOk l → rowsL l k lo hi t = (rowsAt (partD (allD l) k) t).filter (inI lo hi) := by
    intro l
    induction l with
    | nil => intro _; rfl
    | cons g l ih =>
      intro h
      have ih := ih h.tail
      unfold rowsL at ih ⊢
      rw [List.flatMap_cons, part_head h, ih]
      by_cases hk : g.key = k
      · rw [if_pos hk, if_pos hk, part_none h.tail fun x hx e' => less_ne ((List.pairwise_cons.1 h.sorted).1 x hx) (hk.trans e'.symm)]
        rw [show rowsAt [] t = [] from rfl]
        simp
      · rw [if_neg hk, if_neg hk, List.nil_append]
  exact this _ h
def checkM (a : Arr) : Int := if ValidA a then 0 else 1

/-! ### What fits -/
def fitA (a : Arr) : Prop := a.groups.length ≤ big ∧ fitDs (allD a.groups)
theorem fitDs.okN {d : List Dlt} (h : fitDs d) : okN d := fun x hx => (h.2 x hx).1
theorem fitR.okF {r : Rw} (h : fitR r) : okF r := Nat.le_trans h.1 (by decide)
theorem fitDs.okF {d : List Dlt} (h : fitDs d) : ∀ x ∈ d, okF x.row := fun x hx => (h.2 x hx).2.okF
theorem fitDs.part {d : List Dlt} (h : fitDs d) (k : Str) : fitDs (partD d k) := ⟨Nat.le_trans (List.length_filter_le _ _) h.1, fun x hx => h.2 x (List.mem_filter.1 hx).1⟩
theorem fitDs.purge {d : List Dlt} (h : fitDs d) (ids : List FID) : fitDs (purgeM d ids) := ⟨Nat.le_trans (List.length_filter_le _ _) h.1, fun x hx => h.2 x (List.mem_filter.1 hx).1⟩
theorem fitDs.adv {d : List Dlt} (h : fitDs d) (s : Int) : fitDs (advD s d) := ⟨by unfold advD; rw [List.length_map]; exact h.1, fun x hx => by
  obtain ⟨y, hy, rfl⟩ := List.mem_map.1 hx
  exact h.2 y hy⟩
theorem fitDs.cons {d : List Dlt} (h : fitDs d) : fitDs (consM d) := ⟨Nat.le_trans (consM_len d) h.1, fun x hx => by
  obtain ⟨y, hy, _, e⟩ := consM_keys x hx
  exact ⟨((consM_canon h.okN).2 x hx).2, e ▸ (h.2 y hy).2⟩⟩
theorem allD_map_len (d : List Dlt) : ∀ K : List Str, K.Nodup → (allD (K.map (grpOf d))).length ≤ (d.filter fun x => K.any fun k => decide (x.row.key = k)).length
  | [], _ => by simp [allD]
  | k :: K, h => by
    have ih := allD_map_len d K (List.nodup_cons.1 h).2
    have hk := (List.nodup_cons.1 h).1
    rw [List.map_cons, allD_cons, List.length_append]
    have h1 : (grpOf d k).ds.length ≤ (partD d k).length := consM_len _
    have h2 : (d.filter fun x => (k :: K).any fun k => decide (x.row.key = k)).length = (partD d k).length + (d.filter fun x => K.any fun k => decide (x.row.key = k)).length := by
      clear ih h1
      unfold partD
      induction d with
      | nil => rfl
      | cons x d ih =>
        simp only [List.filter_cons, List.any_cons]
        by_cases e : x.row.key = k
        · have hn : (K.any fun k => decide (x.row.key = k)) = false := by
            rw [List.any_eq_false]
            intro a ha hd
            exact hk (by rw [← e, of_decide_eq_true hd]; exact ha)
          simp only [decide_eq_true e, hn, Bool.true_or, if_true, List.length_cons, Bool.false_eq_true, if_false]
          simp only [List.any_cons] at ih
          omega
        · simp only [decide_eq_false e, Bool.false_or, Bool.false_eq_true, if_false]
          simp only [List.any_cons] at ih
          split
          · simp only [List.length_cons]; omega
          · exact ih
    omega
theorem grpsM_len (d : List Dlt) : (allD (grpsM d)).length ≤ d.length := by
  unfold grpsM
  rw [allD_full]
  exact Nat.le_trans (allD_map_len d _ (keysM_sorted d).nodup) (List.length_filter_le _ _)
theorem fit_of {s : Int} {d : List Dlt} (h : fitDs d) : fitA (ofM s d) := by
  refine ⟨?_, Nat.le_trans (grpsM_len d) h.1, fun x hx => ?_⟩
  · refine Nat.le_trans ?_ (Nat.le_trans (keysM_len d) h.1)
    show (grpsM d).length ≤ _
    unfold grpsM
    exact Nat.le_trans (List.length_filter_le _ _) (by rw [List.length_map]; exact Nat.le_refl _)
  · obtain ⟨g, hg, hx⟩ := List.mem_flatMap.1 hx
    obtain ⟨k, hk, rfl⟩ := List.mem_map.1 (List.mem_filter.1 hg).1
    exact (h.part k).cons.2 x hx
theorem fitA.ds {a : Arr} (h : fitA a) : ∀ g ∈ a.groups, fitDs g.ds := fun g hg => by
  have hs : g.ds.Sublist (allD a.groups) := by
    obtain ⟨s, l⟩ := a
    simp only at hg ⊢
    clear h
    induction l with
    | nil => cases hg
    | cons x l ih =>
      rw [allD_cons]
      rcases List.mem_cons.1 hg with rfl | hg
      · exact List.sublist_append_left _ _
      · exact (ih hg).trans (List.sublist_append_right _ _)
  exact ⟨Nat.le_trans hs.length_le h.2.1, fun x hx => h.2.2 x (hs.subset hx)⟩
theorem fitA.fitG {a : Arr} (h : fitA a) : fitG a.groups := ⟨h.1, h.ds⟩
theorem fitA.okGs {a : Arr} (h : fitA a) : okGs a.groups := ⟨Nat.le_trans h.1 (by decide), fun g hg => ⟨Nat.le_trans (h.ds g hg).1 (by decide), (h.ds g hg).okF⟩⟩
theorem fit_arr0 : fitA arr0 := ⟨by decide, by decide, fun x hx => by cases hx⟩
theorem OkR_row {P : Program} {g : FuncId} {zs : List V} {Q : V → List VL.Row → Prop} {p : Fix Q} {k : Nat} {e : TypeId} {es : List (List V)} (h : OkRow P g zs k e es) (hk : ∀ y, Q (.list (some y) k es) [⟨y, k, e⟩]) : OkR P g zs Q p :=
  Ok.mono h fun v bs rs ⟨h1, y, h2, h3⟩ => by subst h1; subst h2; subst h3; exact ⟨rfl, hk y⟩
end Go.Proofs.Ytopfanlkbepemaa

/- Arrangements: contracts, the reference's purge and its index. -/
set_option linter.unusedSimpArgs false
set_option maxRecDepth 100000
namespace Go.Proofs.Ytopfanlkbepemaa
open Go.VL Go.Ar Go.Proofs.Ytopfanlkbepemaa

set_option linter.defProp false in
def tbAHb0 := (And.intro (And.intro (And.intro (And.intro (And.intro (And.intro Ty.sz3 Ty.by3) (And.intro Ty.ag3 Ty.zr3)) (And.intro (And.intro Ty.un3 Ty.sz4) (And.intro Ty.by4 (And.intro Ty.ag4 Ty.zr4)))) (And.intro (And.intro (And.intro Ty.un4 Ty.sz9) (And.intro Ty.by9 (And.intro Ty.ag9 Ty.zr9))) (And.intro (And.intro Ty.un9 Ty.sz41) (And.intro Ty.by41 (And.intro Ty.ag41 Ty.zr41))))) (And.intro (And.intro (And.intro (And.intro Ty.un41 Ty.sz47) (And.intro Ty.by47 (And.intro Ty.ag47 Ty.zr47))) (And.intro (And.intro Ty.un47 Ty.sz53) (And.intro Ty.by53 (And.intro Ty.ag53 Ty.zr53)))) (And.intro (And.intro (And.intro Ty.fl53_0 Ty.pl53_0) (And.intro Ty.fl53_1 (And.intro Ty.pl53_1 Ty.sz54))) (And.intro (And.intro Ty.by54 Ty.ag54) (And.intro Ty.zr54 (And.intro Ty.un54 Ty.sz56)))))) (And.intro (And.intro (And.intro (And.intro (And.intro Ty.by56 Ty.ag56) (And.intro Ty.zr56 (And.intro Ty.fl56_0 Ty.pl56_0))) (And.intro (And.intro Ty.fl56_1 Ty.pl56_1) (And.intro Ty.fl56_2 (And.intro Ty.pl56_2 Ty.fl56_3)))) (And.intro (And.intro (And.intro Ty.pl56_3 Ty.fl56_4) (And.intro Ty.pl56_4 (And.intro Ty.fl56_5 Ty.pl56_5))) (And.intro (And.intro Ty.fl56_6 Ty.pl56_6) (And.intro Ty.sz61 (And.intro Ty.by61 Ty.ag61))))) (And.intro (And.intro (And.intro (And.intro Ty.zr61 Ty.fl61_0) (And.intro Ty.pl61_0 (And.intro Ty.fl61_1 Ty.pl61_1))) (And.intro (And.intro Ty.fl61_2 Ty.pl61_2) (And.intro Ty.sz109 (And.intro Ty.by109 Ty.ag109)))) (And.intro (And.intro (And.intro Ty.zr109 Ty.fl109_0) (And.intro Ty.pl109_0 (And.intro Ty.fl109_1 Ty.pl109_1))) (And.intro (And.intro Ty.fl109_2 Ty.pl109_2) (And.intro Ty.eq53 (And.intro Ty.eq109 Ty.cb68)))))))
theorem purge20_ok (d : List Dlt) (ids : List FID) (hd : d.length ≤ big) (hids : ids.length ≤ 9223372036854775807) : OkP Try.prog 47 [vDlts d, vFIDs ids] (vDlts (purgeM d ids)) := by
  unfold big at hd
  refine OkRow.list (e := 61) ?_
  refine Ok.of_ex Ty.mixed Try.func47 rfl (by simp [Try.ntmps47]) (by kernel_rfl) fun F w0 I0 => ?_
  simp only [↓ruleA0, ↓ruleA1, ↓ruleA2, ruleB0, ruleB1, ruleB2, ruleB3, ruleL, ↓retK, ncall, Todo_eq, packV, eqTB, litB, litV, fitL, fit, veqL, veq, sbin, sun, nilB, cellsV, oneB, okC, vals, fillV, partsE, Int.reduceLE, Int.reduceLT, Int.reduceToNat, Nat.reduceAdd, Nat.reduceEqDiff, Nat.reduceLT, Nat.reduceLeDiff, Nat.reduceMul, Nat.reduceSub, reduceCtorEq, tbAHb0, Try.results47]
  refine AWP.nilRow 5 10 61 (by simp only [↓ruleA0, ↓ruleA1, ↓ruleA2, ruleB0, ruleB1, ruleB2, ruleB3, ruleL, ↓retK, ncall, Todo_eq, packV, eqTB, litB, litV, fitL, fit, veqL, veq, sbin, sun, nilB, cellsV, oneB, okC, vals, fillV, partsE, Int.reduceLE, Int.reduceLT, Int.reduceToNat, Nat.reduceAdd, Nat.reduceEqDiff, Nat.reduceLT, Nat.reduceLeDiff, Nat.reduceMul, Nat.reduceSub, reduceCtorEq, tbAHb0, Try.results47]) (by decide) ?_
  refine EX_forR Ty.mixed (by kernel_rfl) d.length (fun i S => ∃ y, S.σ 5 = .list (some y) 10 ((purgeM (d.take i) ids).map cDlt) ∧ S.rows = [⟨y, 10, 61⟩] ∧ S.σ 1 = vFIDs ids ∧ S.σ 0 = vDlts d ∧ S.σ 6 = vint i ∧ S.boxes = []) ⟨0, 1, nilv, ?_⟩ (fun i S hi ⟨y, g5, gr, g1, g0, g6, gb⟩ => ?_) (fun S ⟨y, g5, gr, g1, g0, g6, gb⟩ => ?_)
  · simp only [↓ruleA0, ↓ruleA1, ↓ruleA2, ruleB0, ruleB1, ruleB2, ruleB3, ruleL, ↓retK, ncall, Todo_eq, packV, eqTB, litB, litV, fitL, fit, veqL, veq, sbin, sun, nilB, cellsV, oneB, okC, vals, fillV, partsE, Int.reduceLE, Int.reduceLT, Int.reduceToNat, Nat.reduceAdd, Nat.reduceEqDiff, Nat.reduceLT, Nat.reduceLeDiff, Nat.reduceMul, Nat.reduceSub, reduceCtorEq, tbAHb0, Try.results47, List.length_map]
    rfl
  · simp only [↓ruleA0, ↓ruleA1, ↓ruleA2, ruleB0, ruleB1, ruleB2, ruleB3, ruleL, ↓retK, ncall, Todo_eq, packV, eqTB, litB, litV, fitL, fit, veqL, veq, sbin, sun, nilB, cellsV, oneB, okC, vals, fillV, partsE, Int.reduceLE, Int.reduceLT, Int.reduceToNat, Nat.reduceAdd, Nat.reduceEqDiff, Nat.reduceLT, Nat.reduceLeDiff, Nat.reduceMul, Nat.reduceSub, reduceCtorEq, tbAHb0, Try.results47, g5, gr, g1, g0, g6, gb, Int.ofNat_lt, hi, List.length_map, getD_map]
    have htk : purgeM (d.take (i + 1)) ids = purgeM (d.take i) ids ++ (if d[i].row.id ∈ ids then [] else [d[i]]) := by
      unfold purgeM
      rw [List.take_succ_eq_append_getElem hi, List.filter_append]
      by_cases hx : d[i].row.id ∈ ids <;> simp [hx]
    have hlen : (purgeM (d.take i) ids).length ≤ i := by
      have := List.length_filter_le (fun x => !decide (x.row.id ∈ ids)) (d.take i)
      simp only [List.length_take] at this
      unfold purgeM; omega
    refine OkF_of _ (inIDs_ok ids d[i].row.id hids) ?_
    by_cases hx : d[i].row.id ∈ ids
    · simp only [↓ruleA0, ↓ruleA1, ↓ruleA2, ruleB0, ruleB1, ruleB2, ruleB3, ruleL, ↓retK, ncall, Todo_eq, packV, eqTB, litB, litV, fitL, fit, veqL, veq, sbin, sun, nilB, cellsV, oneB, okC, vals, fillV, partsE, Int.reduceLE, Int.reduceLT, Int.reduceToNat, Nat.reduceAdd, Nat.reduceEqDiff, Nat.reduceLT, Nat.reduceLeDiff, Nat.reduceMul, Nat.reduceSub, reduceCtorEq, tbAHb0, Try.results47, g5, gr, g1, g0, g6, gb, hx, wrap_succ hi (Nat.le_trans hd (by decide))]
      refine ⟨0, 1, y, ?_, rfl⟩
      rw [htk, if_pos hx, List.append_nil]
    · simp only [↓ruleA0, ↓ruleA1, ↓ruleA2, ruleB0, ruleB1, ruleB2, ruleB3, ruleL, ↓retK, ncall, Todo_eq, packV, eqTB, litB, litV, fitL, fit, veqL, veq, sbin, sun, nilB, cellsV, oneB, okC, vals, fillV, partsE, Int.reduceLE, Int.reduceLT, Int.reduceToNat, Nat.reduceAdd, Nat.reduceEqDiff, Nat.reduceLT, Nat.reduceLeDiff, Nat.reduceMul, Nat.reduceSub, reduceCtorEq, tbAHb0, Try.results47, g5, gr, g1, g0, g6, gb, hx, Int.ofNat_lt, hi, List.length_map, getD_map]
      refine fun y2 => takeRF_2 ?_
      simp only [↓ruleA0, ↓ruleA1, ↓ruleA2, ruleB0, ruleB1, ruleB2, ruleB3, ruleL, ↓retK, ncall, Todo_eq, packV, eqTB, litB, litV, fitL, fit, veqL, veq, sbin, sun, nilB, cellsV, oneB, okC, vals, fillV, partsE, Int.reduceLE, Int.reduceLT, Int.reduceToNat, Nat.reduceAdd, Nat.reduceEqDiff, Nat.reduceLT, Nat.reduceLeDiff, Nat.reduceMul, Nat.reduceSub, reduceCtorEq, tbAHb0, Try.results47, g5, gr, g1, g0, g6, gb, hx, wrap_succ hi (Nat.le_trans hd (by decide)), List.length_map]
      refine ⟨(by first | omega | (simp; omega)), fun y3 => ⟨0, 1, y3, ?_, rfl⟩⟩
      rw [htk, if_neg hx, List.map_append]
      rfl
  · simp only [↓ruleA0, ↓ruleA1, ↓ruleA2, ruleB0, ruleB1, ruleB2, ruleB3, ruleL, ↓retK, ncall, Todo_eq, packV, eqTB, litB, litV, fitL, fit, veqL, veq, sbin, sun, nilB, cellsV, oneB, okC, vals, fillV, partsE, Int.reduceLE, Int.reduceLT, Int.reduceToNat, Nat.reduceAdd, Nat.reduceEqDiff, Nat.reduceLT, Nat.reduceLeDiff, Nat.reduceMul, Nat.reduceSub, reduceCtorEq, tbAHb0, Try.results47, g5, gr, g1, g0, g6, gb, Int.ofNat_lt, Nat.lt_irrefl, List.length_map]
    rw [List.take_of_length_le (Nat.le_refl _)]
    exact ret_row

def grpsK (d : List Dlt) (K : List Str) : List Grp := (K.map (grpOf d)).filter full
theorem grpsK_take (d : List Dlt) (K : List Str) (i : Nat) (h : i < K.length) : grpsK d (K.take (i + 1)) = grpsK d (K.take i) ++ (if full (grpOf d K[i]) = true then [grpOf d K[i]] else []) := by
  unfold grpsK
  rw [List.take_succ_eq_append_getElem h, List.map_append, List.filter_append]
  by_cases hx : full (grpOf d K[i]) = true <;> simp [hx]
theorem grpsK_len (d : List Dlt) (K : List Str) (i : Nat) : (grpsK d (K.take i)).length ≤ i := by
  unfold grpsK
  have := List.length_filter_le full ((K.take i).map (grpOf d))
  simp only [List.length_map, List.length_take] at this
  omega
theorem partD_take (d : List Dlt) (k : Str) (i : Nat) (h : i < d.length) : partD (d.take (i + 1)) k = partD (d.take i) k ++ (if d[i].row.key = k then [d[i]] else []) := by
  unfold partD
  rw [List.take_succ_eq_append_getElem h, List.filter_append]
  by_cases hx : d[i].row.key = k <;> simp [hx]
theorem partD_len (d : List Dlt) (k : Str) : (partD d k).length ≤ d.length := List.length_filter_le _ _
set_option linter.defProp false in
def tbAHb1 := (And.intro (And.intro (And.intro (And.intro (And.intro (And.intro Ty.sz3 (And.intro Ty.by3 Ty.ag3)) (And.intro Ty.zr3 (And.intro Ty.un3 Ty.sz4))) (And.intro (And.intro Ty.by4 (And.intro Ty.ag4 Ty.zr4)) (And.intro Ty.un4 (And.intro Ty.sz9 Ty.by9)))) (And.intro (And.intro (And.intro Ty.ag9 (And.intro Ty.zr9 Ty.un9)) (And.intro Ty.sz22 (And.intro Ty.by22 Ty.ag22))) (And.intro (And.intro Ty.zr22 (And.intro Ty.un22 Ty.sz24)) (And.intro (And.intro Ty.by24 Ty.ag24) (And.intro Ty.zr24 Ty.fl24_0))))) (And.intro (And.intro (And.intro (And.intro Ty.pl24_0 (And.intro Ty.fl24_1 Ty.pl24_1)) (And.intro Ty.sz35 (And.intro Ty.by35 Ty.ag35))) (And.intro (And.intro Ty.zr35 (And.intro Ty.un35 Ty.sz41)) (And.intro Ty.by41 (And.intro Ty.ag41 Ty.zr41)))) (And.intro (And.intro (And.intro Ty.un41 (And.intro Ty.sz53 Ty.by53)) (And.intro Ty.ag53 (And.intro Ty.zr53 Ty.fl53_0))) (And.intro (And.intro Ty.pl53_0 (And.intro Ty.fl53_1 Ty.pl53_1)) (And.intro (And.intro Ty.sz54 Ty.by54) (And.intro Ty.ag54 Ty.zr54)))))) (And.intro (And.intro (And.intro (And.intro (And.intro Ty.un54 (And.intro Ty.sz56 Ty.by56)) (And.intro Ty.ag56 (And.intro Ty.zr56 Ty.fl56_0))) (And.intro (And.intro Ty.pl56_0 (And.intro Ty.fl56_1 Ty.pl56_1)) (And.intro Ty.fl56_2 (And.intro Ty.pl56_2 Ty.fl56_3)))) (And.intro (And.intro (And.intro Ty.pl56_3 (And.intro Ty.fl56_4 Ty.pl56_4)) (And.intro Ty.fl56_5 (And.intro Ty.pl56_5 Ty.fl56_6))) (And.intro (And.intro Ty.pl56_6 (And.intro Ty.sz61 Ty.by61)) (And.intro (And.intro Ty.ag61 Ty.zr61) (And.intro Ty.fl61_0 Ty.pl61_0))))) (And.intro (And.intro (And.intro (And.intro Ty.fl61_1 (And.intro Ty.pl61_1 Ty.fl61_2)) (And.intro Ty.pl61_2 (And.intro Ty.sz65 Ty.by65))) (And.intro (And.intro Ty.ag65 (And.intro Ty.zr65 Ty.fl65_0)) (And.intro (And.intro Ty.pl65_0 Ty.fl65_1) (And.intro Ty.pl65_1 Ty.sz109)))) (And.intro (And.intro (And.intro Ty.by109 (And.intro Ty.ag109 Ty.zr109)) (And.intro Ty.fl109_0 (And.intro Ty.pl109_0 Ty.fl109_1))) (And.intro (And.intro Ty.pl109_1 (And.intro Ty.fl109_2 Ty.pl109_2)) (And.intro (And.intro Ty.eq53 Ty.eq109) (And.intro Ty.cb55 Ty.cb67)))))))
theorem of20_ok (s : Int) (d : List Dlt) (hd : d.length ≤ big) (hf : ∀ x ∈ d, okF x.row) : OkP Try.prog 46 [vint s, vDlts d] (vArr (ofM s d)) := by
  have hd0 := hd
  unfold big at hd
  refine Ok.of_ex Ty.mixed Try.func46 rfl (by simp [Try.ntmps46]) (by kernel_rfl) fun F w0 I0 => ?_
  simp only [↓ruleA0, ↓ruleA1, ↓ruleA2, ruleB0, ruleB1, ruleB2, ruleB3, ruleL, ↓retK, ncall, Todo_eq, packV, eqTB, litB, litV, fitL, fit, veqL, veq, sbin, sun, nilB, cellsV, oneB, okC, vals, fillV, partsE, Int.reduceLE, Int.reduceLT, Int.reduceToNat, Nat.reduceAdd, Nat.reduceEqDiff, Nat.reduceLT, Nat.reduceLeDiff, Nat.reduceMul, Nat.reduceSub, reduceCtorEq, tbAHb1, Try.results46]
  refine fun b4 h4 => ?_; replace h4 := newb h4; try simp only [Nb] at h4
  simp only [↓ruleA0, ↓ruleA1, ↓ruleA2, ruleB0, ruleB1, ruleB2, ruleB3, ruleL, ↓retK, ncall, Todo_eq, packV, eqTB, litB, litV, fitL, fit, veqL, veq, sbin, sun, nilB, cellsV, oneB, okC, vals, fillV, partsE, Int.reduceLE, Int.reduceLT, Int.reduceToNat, Nat.reduceAdd, Nat.reduceEqDiff, Nat.reduceLT, Nat.reduceLeDiff, Nat.reduceMul, Nat.reduceSub, reduceCtorEq, tbAHb1, Try.results46]
  refine fun b5 h5 => ?_; replace h5 := newb h5; try simp only [Nb] at h5
  simp only [↓ruleA0, ↓ruleA1, ↓ruleA2, ruleB0, ruleB1, ruleB2, ruleB3, ruleL, ↓retK, ncall, Todo_eq, packV, eqTB, litB, litV, fitL, fit, veqL, veq, sbin, sun, nilB, cellsV, oneB, okC, vals, fillV, partsE, Int.reduceLE, Int.reduceLT, Int.reduceToNat, Nat.reduceAdd, Nat.reduceEqDiff, Nat.reduceLT, Nat.reduceLeDiff, Nat.reduceMul, Nat.reduceSub, reduceCtorEq, tbAHb1, Try.results46, h5]
  have hkl := keysM_len d
  generalize hK : keysM d = K at hkl
  refine OkF_of _ (hK ▸ (keys_ok d hd0).list) ?_
  simp only [↓ruleA0, ↓ruleA1, ↓ruleA2, ruleB0, ruleB1, ruleB2, ruleB3, ruleL, ↓retK, ncall, Todo_eq, packV, eqTB, litB, litV, fitL, fit, veqL, veq, sbin, sun, nilB, cellsV, oneB, okC, vals, fillV, partsE, Int.reduceLE, Int.reduceLT, Int.reduceToNat, Nat.reduceAdd, Nat.reduceEqDiff, Nat.reduceLT, Nat.reduceLeDiff, Nat.reduceMul, Nat.reduceSub, reduceCtorEq, tbAHb1, Try.results46, h5]
  refine EX_nilB (cs' := [vint s, .list (some nilv) 2 []]) (k := 2) (e := 65) [] [_] (by simp only [↓ruleA0, ↓ruleA1, ↓ruleA2, ruleB0, ruleB1, ruleB2, ruleB3, ruleL, ↓retK, ncall, Todo_eq, packV, eqTB, litB, litV, fitL, fit, veqL, veq, sbin, sun, nilB, cellsV, oneB, okC, vals, fillV, partsE, Int.reduceLE, Int.reduceLT, Int.reduceToNat, Nat.reduceAdd, Nat.reduceEqDiff, Nat.reduceLT, Nat.reduceLeDiff, Nat.reduceMul, Nat.reduceSub, reduceCtorEq, tbAHb1, Try.results46, h5]; try rfl) (.cons (Le.refl _) (.cons (Le.nilOwn 2) .nil)) (by decide) ?_
  refine EX_forS Ty.mixed (by kernel_rfl) K.length (fun i S => ∃ y, S.boxes = [(b5, .c [vint s, .list (some y) 2 ((grpsK d (K.take i)).map cGrp)]), (b4, .c [vint 0, nilS])] ∧ S.rows = [⟨y, 2, 65⟩] ∧ S.σ 1 = vDlts d ∧ S.σ 4 = ptr b4 ∧ S.σ 5 = ptr b5 ∧ S.σ 6 = vstrs K ∧ S.σ 7 = vint i) ⟨_, _, List.Sublist.refl _, List.Sublist.refl _, nilv, ?_⟩ (fun i S hi ⟨y, gb, gr, g1, g4, g5, g6, g7⟩ => ?_) (fun S ⟨y, gb, gr, g1, g4, g5, g6, g7⟩ => ?_)
  · simp only [↓ruleA0, ↓ruleA1, ↓ruleA2, ruleB0, ruleB1, ruleB2, ruleB3, ruleL, ↓retK, ncall, Todo_eq, packV, eqTB, litB, litV, fitL, fit, veqL, veq, sbin, sun, nilB, cellsV, oneB, okC, vals, fillV, partsE, Int.reduceLE, Int.reduceLT, Int.reduceToNat, Nat.reduceAdd, Nat.reduceEqDiff, Nat.reduceLT, Nat.reduceLeDiff, Nat.reduceMul, Nat.reduceSub, reduceCtorEq, tbAHb1, Try.results46, h5]
    simp [grpsK]
  · have htk := grpsK_take d K i hi
    have hlen := grpsK_len d K i
    generalize hk : K[i] = k at htk
    simp only [↓ruleA0, ↓ruleA1, ↓ruleA2, ruleB0, ruleB1, ruleB2, ruleB3, ruleL, ↓retK, ncall, Todo_eq, packV, eqTB, litB, litV, fitL, fit, veqL, veq, sbin, sun, nilB, cellsV, oneB, okC, vals, fillV, partsE, Int.reduceLE, Int.reduceLT, Int.reduceToNat, Nat.reduceAdd, Nat.reduceEqDiff, Nat.reduceLT, Nat.reduceLeDiff, Nat.reduceMul, Nat.reduceSub, reduceCtorEq, tbAHb1, Try.results46, gb, gr, g1, g4, g5, g6, g7, h5, Int.ofNat_lt, hi, List.length_map]
    refine AWP.nilRow 8 10 61 (by simp only [↓ruleA0, ↓ruleA1, ↓ruleA2, ruleB0, ruleB1, ruleB2, ruleB3, ruleL, ↓retK, ncall, Todo_eq, packV, eqTB, litB, litV, fitL, fit, veqL, veq, sbin, sun, nilB, cellsV, oneB, okC, vals, fillV, partsE, Int.reduceLE, Int.reduceLT, Int.reduceToNat, Nat.reduceAdd, Nat.reduceEqDiff, Nat.reduceLT, Nat.reduceLeDiff, Nat.reduceMul, Nat.reduceSub, reduceCtorEq, tbAHb1, Try.results46]) (by decide) ?_
    refine EX_forS Ty.mixed (by kernel_rfl) d.length (fun j S => ∃ y2, S.σ 8 = .list (some y2) 10 ((partD (d.take j) k).map cDlt) ∧ S.boxes = [(b5, .c [vint s, .list (some y) 2 ((grpsK d (K.take i)).map cGrp)]), (b4, .c [vint 0, nilS])] ∧ S.rows = [⟨y2, 10, 61⟩, ⟨y, 2, 65⟩] ∧ S.σ 1 = vDlts d ∧ S.σ 4 = ptr b4 ∧ S.σ 5 = ptr b5 ∧ S.σ 6 = vstrs K ∧ S.σ 7 = vint i ∧ S.σ 9 = vint j) ⟨_, _, List.Sublist.refl _, List.Sublist.refl _, nilv, ?_⟩ (fun j S hj ⟨y2, g8, gb, gr, g1, g4, g5, g6, g7, g9⟩ => ?_) (fun S ⟨y2, g8, gb, gr, g1, g4, g5, g6, g7, g9⟩ => ?_)
    · simp only [↓ruleA0, ↓ruleA1, ↓ruleA2, ruleB0, ruleB1, ruleB2, ruleB3, ruleL, ↓retK, ncall, Todo_eq, packV, eqTB, litB, litV, fitL, fit, veqL, veq, sbin, sun, nilB, cellsV, oneB, okC, vals, fillV, partsE, Int.reduceLE, Int.reduceLT, Int.reduceToNat, Nat.reduceAdd, Nat.reduceEqDiff, Nat.reduceLT, Nat.reduceLeDiff, Nat.reduceMul, Nat.reduceSub, reduceCtorEq, tbAHb1, Try.results46, gb, gr, g1, g4, g5, g6, g7, h5]
      simp [partD]
    · have hpk := partD_take d k j hj
      have hpl := partD_len (d.take j) k
      rw [List.length_take] at hpl
      by_cases hx : d[j].row.key = k
      · simp only [↓ruleA0, ↓ruleA1, ↓ruleA2, ruleB0, ruleB1, ruleB2, ruleB3, ruleL, ↓retK, ncall, Todo_eq, packV, eqTB, litB, litV, fitL, fit, veqL, veq, sbin, sun, nilB, cellsV, oneB, okC, vals, fillV, partsE, Int.reduceLE, Int.reduceLT, Int.reduceToNat, Nat.reduceAdd, Nat.reduceEqDiff, Nat.reduceLT, Nat.reduceLeDiff, Nat.reduceMul, Nat.reduceSub, reduceCtorEq, tbAHb1, Try.results46, g8, gb, gr, g1, g4, g5, g6, g7, g9, h5, Int.ofNat_lt, hi, hj, List.length_map, getD_map, hk, hx]
        refine fun y3 => takeRF_2 ?_
        simp only [↓ruleA0, ↓ruleA1, ↓ruleA2, ruleB0, ruleB1, ruleB2, ruleB3, ruleL, ↓retK, ncall, Todo_eq, packV, eqTB, litB, litV, fitL, fit, veqL, veq, sbin, sun, nilB, cellsV, oneB, okC, vals, fillV, partsE, Int.reduceLE, Int.reduceLT, Int.reduceToNat, Nat.reduceAdd, Nat.reduceEqDiff, Nat.reduceLT, Nat.reduceLeDiff, Nat.reduceMul, Nat.reduceSub, reduceCtorEq, tbAHb1, Try.results46, g8, gb, gr, g1, g4, g5, g6, g7, g9, h5, wrap_succ hj (Nat.le_trans hd (by decide)), List.length_map]
        refine ⟨(by first | omega | (simp; omega)), fun y4 => ⟨_, _, List.Sublist.refl _, List.Sublist.cons_cons _ (List.Sublist.cons _ (List.Sublist.refl _)), y4, ?_⟩⟩
        simp only [↓ruleA0, ↓ruleA1, ↓ruleA2, ruleB0, ruleB1, ruleB2, ruleB3, ruleL, ↓retK, ncall, Todo_eq, packV, eqTB, litB, litV, fitL, fit, veqL, veq, sbin, sun, nilB, cellsV, oneB, okC, vals, fillV, partsE, Int.reduceLE, Int.reduceLT, Int.reduceToNat, Nat.reduceAdd, Nat.reduceEqDiff, Nat.reduceLT, Nat.reduceLeDiff, Nat.reduceMul, Nat.reduceSub, reduceCtorEq, tbAHb1, Try.results46, g8, gb, gr, g1, g4, g5, g6, g7, g9, h5, wrap_succ hj (Nat.le_trans hd (by decide)), List.length_map]
        rw [hpk, if_pos hx, List.map_append]
        subst hx
        rfl
      · simp only [↓ruleA0, ↓ruleA1, ↓ruleA2, ruleB0, ruleB1, ruleB2, ruleB3, ruleL, ↓retK, ncall, Todo_eq, packV, eqTB, litB, litV, fitL, fit, veqL, veq, sbin, sun, nilB, cellsV, oneB, okC, vals, fillV, partsE, Int.reduceLE, Int.reduceLT, Int.reduceToNat, Nat.reduceAdd, Nat.reduceEqDiff, Nat.reduceLT, Nat.reduceLeDiff, Nat.reduceMul, Nat.reduceSub, reduceCtorEq, tbAHb1, Try.results46, g8, gb, gr, g1, g4, g5, g6, g7, g9, h5, Int.ofNat_lt, hi, hj, List.length_map, getD_map, hk, hx, wrap_succ hj (Nat.le_trans hd (by decide))]
        refine ⟨_, _, List.Sublist.refl _, List.Sublist.refl _, y2, ?_⟩
        simp only [↓ruleA0, ↓ruleA1, ↓ruleA2, ruleB0, ruleB1, ruleB2, ruleB3, ruleL, ↓retK, ncall, Todo_eq, packV, eqTB, litB, litV, fitL, fit, veqL, veq, sbin, sun, nilB, cellsV, oneB, okC, vals, fillV, partsE, Int.reduceLE, Int.reduceLT, Int.reduceToNat, Nat.reduceAdd, Nat.reduceEqDiff, Nat.reduceLT, Nat.reduceLeDiff, Nat.reduceMul, Nat.reduceSub, reduceCtorEq, tbAHb1, Try.results46, g8, gb, gr, g1, g4, g5, g6, g7, g9, h5, wrap_succ hj (Nat.le_trans hd (by decide)), List.length_map]
        rw [hpk, if_neg hx, List.append_nil]
    · simp only [↓ruleA0, ↓ruleA1, ↓ruleA2, ruleB0, ruleB1, ruleB2, ruleB3, ruleL, ↓retK, ncall, Todo_eq, packV, eqTB, litB, litV, fitL, fit, veqL, veq, sbin, sun, nilB, cellsV, oneB, okC, vals, fillV, partsE, Int.reduceLE, Int.reduceLT, Int.reduceToNat, Nat.reduceAdd, Nat.reduceEqDiff, Nat.reduceLT, Nat.reduceLeDiff, Nat.reduceMul, Nat.reduceSub, reduceCtorEq, tbAHb1, Try.results46, g8, gb, gr, g1, g4, g5, g6, g7, g9, h5, Int.ofNat_lt, Nat.lt_irrefl, List.length_map]
      rw [List.take_of_length_le (Nat.le_refl _)]
      have hpf : ∀ x ∈ partD d k, okF x.row := fun x hx => hf x (List.mem_filter.1 hx).1
      have hpl := partD_len d k
      refine OkF_le (.cons (Le.list _ _ _) .nil) _ (cons20_ok (partD d k) (Nat.le_trans hpl hd0) hpf) ?_
      by_cases hx : full (grpOf d k) = true
      · have hx' : (0 : Int) < ((consM (partD d k)).length : Int) := by
          have h0 : 0 < (consM (partD d k)).length := of_decide_eq_true hx
          omega
        simp only [↓ruleA0, ↓ruleA1, ↓ruleA2, ruleB0, ruleB1, ruleB2, ruleB3, ruleL, ↓retK, ncall, Todo_eq, packV, eqTB, litB, litV, fitL, fit, veqL, veq, sbin, sun, nilB, cellsV, oneB, okC, vals, fillV, partsE, Int.reduceLE, Int.reduceLT, Int.reduceToNat, Nat.reduceAdd, Nat.reduceEqDiff, Nat.reduceLT, Nat.reduceLeDiff, Nat.reduceMul, Nat.reduceSub, reduceCtorEq, tbAHb1, Try.results46, g8, gb, gr, g1, g4, g5, g6, g7, g9, h5, hx', Int.ofNat_lt, hi, List.length_map, getD_map, hk]
        refine takeRF_2 ?_
        simp only [↓ruleA0, ↓ruleA1, ↓ruleA2, ruleB0, ruleB1, ruleB2, ruleB3, ruleL, ↓retK, ncall, Todo_eq, packV, eqTB, litB, litV, fitL, fit, veqL, veq, sbin, sun, nilB, cellsV, oneB, okC, vals, fillV, partsE, Int.reduceLE, Int.reduceLT, Int.reduceToNat, Nat.reduceAdd, Nat.reduceEqDiff, Nat.reduceLT, Nat.reduceLeDiff, Nat.reduceMul, Nat.reduceSub, reduceCtorEq, tbAHb1, Try.results46, g8, gb, gr, g1, g4, g5, g6, g7, g9, h5, wrap_succ hi (Nat.le_trans hkl (Nat.le_trans hd (by decide))), List.length_map]
        refine ⟨(by first | omega | (simp; omega)), fun y5 => ⟨_, [_], List.Sublist.refl _, List.Sublist.cons_cons _ (List.nil_sublist _), y5, ?_⟩⟩
        simp only [↓ruleA0, ↓ruleA1, ↓ruleA2, ruleB0, ruleB1, ruleB2, ruleB3, ruleL, ↓retK, ncall, Todo_eq, packV, eqTB, litB, litV, fitL, fit, veqL, veq, sbin, sun, nilB, cellsV, oneB, okC, vals, fillV, partsE, Int.reduceLE, Int.reduceLT, Int.reduceToNat, Nat.reduceAdd, Nat.reduceEqDiff, Nat.reduceLT, Nat.reduceLeDiff, Nat.reduceMul, Nat.reduceSub, reduceCtorEq, tbAHb1, Try.results46, g8, gb, gr, g1, g4, g5, g6, g7, g9, h5, wrap_succ hi (Nat.le_trans hkl (Nat.le_trans hd (by decide))), List.length_map]
        rw [htk, if_pos hx, List.map_append]
        rfl
      · have hx' : ¬ (0 : Int) < ((consM (partD d k)).length : Int) := by
          have h0 : ¬ 0 < (consM (partD d k)).length := fun h => hx (decide_eq_true h)
          omega
        simp only [↓ruleA0, ↓ruleA1, ↓ruleA2, ruleB0, ruleB1, ruleB2, ruleB3, ruleL, ↓retK, ncall, Todo_eq, packV, eqTB, litB, litV, fitL, fit, veqL, veq, sbin, sun, nilB, cellsV, oneB, okC, vals, fillV, partsE, Int.reduceLE, Int.reduceLT, Int.reduceToNat, Nat.reduceAdd, Nat.reduceEqDiff, Nat.reduceLT, Nat.reduceLeDiff, Nat.reduceMul, Nat.reduceSub, reduceCtorEq, tbAHb1, Try.results46, g8, gb, gr, g1, g4, g5, g6, g7, g9, h5, hx', wrap_succ hi (Nat.le_trans hkl (Nat.le_trans hd (by decide))), List.length_map]
        refine ⟨_, _, List.Sublist.refl _, List.Sublist.cons _ (List.Sublist.refl _), y, ?_⟩
        simp only [↓ruleA0, ↓ruleA1, ↓ruleA2, ruleB0, ruleB1, ruleB2, ruleB3, ruleL, ↓retK, ncall, Todo_eq, packV, eqTB, litB, litV, fitL, fit, veqL, veq, sbin, sun, nilB, cellsV, oneB, okC, vals, fillV, partsE, Int.reduceLE, Int.reduceLT, Int.reduceToNat, Nat.reduceAdd, Nat.reduceEqDiff, Nat.reduceLT, Nat.reduceLeDiff, Nat.reduceMul, Nat.reduceSub, reduceCtorEq, tbAHb1, Try.results46, g8, gb, gr, g1, g4, g5, g6, g7, g9, h5, hx', wrap_succ hi (Nat.le_trans hkl (Nat.le_trans hd (by decide))), List.length_map]
        rw [htk, if_neg hx, List.append_nil]
  · simp only [↓ruleA0, ↓ruleA1, ↓ruleA2, ruleB0, ruleB1, ruleB2, ruleB3, ruleL, ↓retK, ncall, Todo_eq, packV, eqTB, litB, litV, fitL, fit, veqL, veq, sbin, sun, nilB, cellsV, oneB, okC, vals, fillV, partsE, Int.reduceLE, Int.reduceLT, Int.reduceToNat, Nat.reduceAdd, Nat.reduceEqDiff, Nat.reduceLT, Nat.reduceLeDiff, Nat.reduceMul, Nat.reduceSub, reduceCtorEq, tbAHb1, Try.results46, gb, gr, g1, g4, g5, g6, g7, h5, Int.ofNat_lt, Nat.lt_irrefl, List.length_map]
    rw [List.take_of_length_le (Nat.le_refl _)]
    exact ret_le (hK ▸ Le.arr _ _ _)
end Go.Proofs.Ytopfanlkbepemaa

/- Arrangements: contracts, the reference's Purge, Insert, Keys, Rows. -/
set_option linter.unusedSimpArgs false
set_option maxRecDepth 100000
namespace Go.Proofs.Ytopfanlkbepemaa
open Go.VL Go.Ar Go.Proofs.Ytopfanlkbepemaa

set_option linter.defProp false in
def tbAHc0 := (And.intro (And.intro (And.intro (And.intro (And.intro (And.intro Ty.sz3 (And.intro Ty.by3 Ty.ag3)) (And.intro Ty.zr3 (And.intro Ty.un3 Ty.sz9))) (And.intro (And.intro Ty.by9 (And.intro Ty.ag9 Ty.zr9)) (And.intro Ty.un9 (And.intro Ty.sz22 Ty.by22)))) (And.intro (And.intro (And.intro Ty.ag22 (And.intro Ty.zr22 Ty.un22)) (And.intro Ty.sz24 (And.intro Ty.by24 Ty.ag24))) (And.intro (And.intro Ty.zr24 (And.intro Ty.fl24_0 Ty.pl24_0)) (And.intro Ty.fl24_1 (And.intro Ty.pl24_1 Ty.sz41))))) (And.intro (And.intro (And.intro (And.intro Ty.by41 (And.intro Ty.ag41 Ty.zr41)) (And.intro Ty.un41 (And.intro Ty.sz47 Ty.by47))) (And.intro (And.intro Ty.ag47 (And.intro Ty.zr47 Ty.un47)) (And.intro Ty.sz53 (And.intro Ty.by53 Ty.ag53)))) (And.intro (And.intro (And.intro Ty.zr53 (And.intro Ty.fl53_0 Ty.pl53_0)) (And.intro Ty.fl53_1 (And.intro Ty.pl53_1 Ty.sz54))) (And.intro (And.intro Ty.by54 (And.intro Ty.ag54 Ty.zr54)) (And.intro Ty.un54 (And.intro Ty.sz56 Ty.by56)))))) (And.intro (And.intro (And.intro (And.intro (And.intro Ty.ag56 (And.intro Ty.zr56 Ty.fl56_0)) (And.intro Ty.pl56_0 (And.intro Ty.fl56_1 Ty.pl56_1))) (And.intro (And.intro Ty.fl56_2 (And.intro Ty.pl56_2 Ty.fl56_3)) (And.intro Ty.pl56_3 (And.intro Ty.fl56_4 Ty.pl56_4)))) (And.intro (And.intro (And.intro Ty.fl56_5 (And.intro Ty.pl56_5 Ty.fl56_6)) (And.intro Ty.pl56_6 (And.intro Ty.sz61 Ty.by61))) (And.intro (And.intro Ty.ag61 (And.intro Ty.zr61 Ty.fl61_0)) (And.intro Ty.pl61_0 (And.intro Ty.fl61_1 Ty.pl61_1))))) (And.intro (And.intro (And.intro (And.intro Ty.fl61_2 (And.intro Ty.pl61_2 Ty.sz65)) (And.intro Ty.by65 (And.intro Ty.ag65 Ty.zr65))) (And.intro (And.intro Ty.fl65_0 (And.intro Ty.pl65_0 Ty.fl65_1)) (And.intro Ty.pl65_1 (And.intro Ty.sz109 Ty.by109)))) (And.intro (And.intro (And.intro Ty.ag109 (And.intro Ty.zr109 Ty.fl109_0)) (And.intro Ty.pl109_0 (And.intro Ty.fl109_1 Ty.pl109_1))) (And.intro (And.intro Ty.fl109_2 (And.intro Ty.pl109_2 Ty.eq53)) (And.intro (And.intro Ty.eq109 Ty.cb46) (And.intro Ty.cb47 Ty.cb48)))))))
theorem purge22_ok (a : Arr) (ids : List FID) (ha : fitA a) (hids : ids.length ≤ 9223372036854775807) : OkP Try.prog 23 [vArr a, vFIDs ids] (vArr (purA a ids)) := by
  refine Ok.of_ex Ty.mixed Try.func23 rfl (by simp [Try.ntmps23]) (by kernel_rfl) fun F w0 I0 => ?_
  simp only [↓ruleA0, ↓ruleA1, ↓ruleA2, ruleB0, ruleB1, ruleB2, ruleB3, ruleL, ↓retK, ncall, Todo_eq, packV, eqTB, litB, litV, fitL, fit, veqL, veq, sbin, sun, nilB, cellsV, oneB, okC, vals, fillV, partsE, Int.reduceLE, Int.reduceLT, Int.reduceToNat, Nat.reduceAdd, Nat.reduceEqDiff, Nat.reduceLT, Nat.reduceLeDiff, Nat.reduceMul, Nat.reduceSub, reduceCtorEq, tbAHc0, Try.results23]
  refine fun b2 h2 => ?_; replace h2 := newb h2; try simp only [Nb] at h2
  simp only [↓ruleA0, ↓ruleA1, ↓ruleA2, ruleB0, ruleB1, ruleB2, ruleB3, ruleL, ↓retK, ncall, Todo_eq, packV, eqTB, litB, litV, fitL, fit, veqL, veq, sbin, sun, nilB, cellsV, oneB, okC, vals, fillV, partsE, Int.reduceLE, Int.reduceLT, Int.reduceToNat, Nat.reduceAdd, Nat.reduceEqDiff, Nat.reduceLT, Nat.reduceLeDiff, Nat.reduceMul, Nat.reduceSub, reduceCtorEq, tbAHc0, Try.results23]
  refine fun b4 h4 => ?_; replace h4 := newb h4; try simp only [Nb] at h4
  simp only [↓ruleA0, ↓ruleA1, ↓ruleA2, ruleB0, ruleB1, ruleB2, ruleB3, ruleL, ↓retK, ncall, Todo_eq, packV, eqTB, litB, litV, fitL, fit, veqL, veq, sbin, sun, nilB, cellsV, oneB, okC, vals, fillV, partsE, Int.reduceLE, Int.reduceLT, Int.reduceToNat, Nat.reduceAdd, Nat.reduceEqDiff, Nat.reduceLT, Nat.reduceLeDiff, Nat.reduceMul, Nat.reduceSub, reduceCtorEq, tbAHc0, Try.results23, h2, h4]
  refine CallV_of _ (OkRow.list (all_ok a ha.1 ha.2.1)).v ?_
  simp only [↓ruleA0, ↓ruleA1, ↓ruleA2, ruleB0, ruleB1, ruleB2, ruleB3, ruleL, ↓retK, ncall, Todo_eq, packV, eqTB, litB, litV, fitL, fit, veqL, veq, sbin, sun, nilB, cellsV, oneB, okC, vals, fillV, partsE, Int.reduceLE, Int.reduceLT, Int.reduceToNat, Nat.reduceAdd, Nat.reduceEqDiff, Nat.reduceLT, Nat.reduceLeDiff, Nat.reduceMul, Nat.reduceSub, reduceCtorEq, tbAHc0, Try.results23, h2, h4]
  refine CallV_of _ (purge20_ok (allD a.groups) ids ha.2.1 hids).v ?_
  simp only [↓ruleA0, ↓ruleA1, ↓ruleA2, ruleB0, ruleB1, ruleB2, ruleB3, ruleL, ↓retK, ncall, Todo_eq, packV, eqTB, litB, litV, fitL, fit, veqL, veq, sbin, sun, nilB, cellsV, oneB, okC, vals, fillV, partsE, Int.reduceLE, Int.reduceLT, Int.reduceToNat, Nat.reduceAdd, Nat.reduceEqDiff, Nat.reduceLT, Nat.reduceLeDiff, Nat.reduceMul, Nat.reduceSub, reduceCtorEq, tbAHc0, Try.results23, h2, h4]
  refine CallV_of _ (of20_ok a.since (purgeM (allD a.groups) ids) (ha.2.purge ids).1 (ha.2.purge ids).okF).v ?_
  simp only [↓ruleA0, ↓ruleA1, ↓ruleA2, ruleB0, ruleB1, ruleB2, ruleB3, ruleL, ↓retK, ncall, Todo_eq, packV, eqTB, litB, litV, fitL, fit, veqL, veq, sbin, sun, nilB, cellsV, oneB, okC, vals, fillV, partsE, Int.reduceLE, Int.reduceLT, Int.reduceToNat, Nat.reduceAdd, Nat.reduceEqDiff, Nat.reduceLT, Nat.reduceLeDiff, Nat.reduceMul, Nat.reduceSub, reduceCtorEq, tbAHc0, Try.results23, h2, h4]
  exact ret_done rfl
set_option linter.defProp false in
def tbAHc1 := (And.intro (And.intro (And.intro (And.intro (And.intro (And.intro Ty.sz3 (And.intro Ty.by3 Ty.ag3)) (And.intro Ty.zr3 (And.intro Ty.un3 Ty.sz4))) (And.intro (And.intro Ty.by4 (And.intro Ty.ag4 Ty.zr4)) (And.intro (And.intro Ty.un4 Ty.sz9) (And.intro Ty.by9 Ty.ag9)))) (And.intro (And.intro (And.intro Ty.zr9 (And.intro Ty.un9 Ty.sz22)) (And.intro (And.intro Ty.by22 Ty.ag22) (And.intro Ty.zr22 Ty.un22))) (And.intro (And.intro Ty.sz24 (And.intro Ty.by24 Ty.ag24)) (And.intro (And.intro Ty.zr24 Ty.fl24_0) (And.intro Ty.pl24_0 Ty.fl24_1))))) (And.intro (And.intro (And.intro (And.intro Ty.pl24_1 (And.intro Ty.sz29 Ty.by29)) (And.intro (And.intro Ty.ag29 Ty.zr29) (And.intro Ty.un29 Ty.sz32))) (And.intro (And.intro Ty.by32 (And.intro Ty.ag32 Ty.zr32)) (And.intro (And.intro Ty.un32 Ty.sz35) (And.intro Ty.by35 Ty.ag35)))) (And.intro (And.intro (And.intro Ty.zr35 (And.intro Ty.un35 Ty.sz41)) (And.intro (And.intro Ty.by41 Ty.ag41) (And.intro Ty.zr41 Ty.un41))) (And.intro (And.intro Ty.sz53 (And.intro Ty.by53 Ty.ag53)) (And.intro (And.intro Ty.zr53 Ty.fl53_0) (And.intro Ty.pl53_0 Ty.fl53_1)))))) (And.intro (And.intro (And.intro (And.intro (And.intro Ty.pl53_1 (And.intro Ty.sz54 Ty.by54)) (And.intro Ty.ag54 (And.intro Ty.zr54 Ty.un54))) (And.intro (And.intro Ty.sz56 (And.intro Ty.by56 Ty.ag56)) (And.intro (And.intro Ty.zr56 Ty.fl56_0) (And.intro Ty.pl56_0 Ty.fl56_1)))) (And.intro (And.intro (And.intro Ty.pl56_1 (And.intro Ty.fl56_2 Ty.pl56_2)) (And.intro (And.intro Ty.fl56_3 Ty.pl56_3) (And.intro Ty.fl56_4 Ty.pl56_4))) (And.intro (And.intro Ty.fl56_5 (And.intro Ty.pl56_5 Ty.fl56_6)) (And.intro (And.intro Ty.pl56_6 Ty.sz61) (And.intro Ty.by61 Ty.ag61))))) (And.intro (And.intro (And.intro (And.intro Ty.zr61 (And.intro Ty.fl61_0 Ty.pl61_0)) (And.intro (And.intro Ty.fl61_1 Ty.pl61_1) (And.intro Ty.fl61_2 Ty.pl61_2))) (And.intro (And.intro Ty.sz65 (And.intro Ty.by65 Ty.ag65)) (And.intro (And.intro Ty.zr65 Ty.fl65_0) (And.intro Ty.pl65_0 Ty.fl65_1)))) (And.intro (And.intro (And.intro Ty.pl65_1 (And.intro Ty.sz109 Ty.by109)) (And.intro (And.intro Ty.ag109 Ty.zr109) (And.intro Ty.fl109_0 Ty.pl109_0))) (And.intro (And.intro Ty.fl109_1 (And.intro Ty.pl109_1 Ty.fl109_2)) (And.intro (And.intro Ty.pl109_2 Ty.eq53) (And.intro Ty.eq109 Ty.cb44)))))))
theorem keys22_ok (a : Arr) (t : Int) (ha : fitA a) : OkP Try.prog 21 [vArr a, vint t] (vKeys2 (keysA a t)) := by
  obtain ⟨s, l⟩ := a
  obtain ⟨hl, hds⟩ := ha.fitG
  simp only at hl hds
  unfold big at hl
  refine Ok.of_ex Ty.mixed Try.func21 rfl (by simp [Try.ntmps21]) (by kernel_rfl) fun F w0 I0 => ?_
  simp only [↓ruleA0, ↓ruleA1, ↓ruleA2, ruleB0, ruleB1, ruleB2, ruleB3, ruleL, ↓retK, ncall, Todo_eq, packV, eqTB, litB, litV, fitL, fit, veqL, veq, sbin, sun, nilB, cellsV, oneB, okC, vals, fillV, partsE, Int.reduceLE, Int.reduceLT, Int.reduceToNat, Nat.reduceAdd, Nat.reduceEqDiff, Nat.reduceLT, Nat.reduceLeDiff, Nat.reduceMul, Nat.reduceSub, reduceCtorEq, tbAHc1, Try.results21]
  refine fun b2 h2 => ?_; replace h2 := newb h2; try simp only [Nb] at h2
  by_cases ht : t < s
  · simp only [↓ruleA0, ↓ruleA1, ↓ruleA2, ruleB0, ruleB1, ruleB2, ruleB3, ruleL, ↓retK, ncall, Todo_eq, packV, eqTB, litB, litV, fitL, fit, veqL, veq, sbin, sun, nilB, cellsV, oneB, okC, vals, fillV, partsE, Int.reduceLE, Int.reduceLT, Int.reduceToNat, Nat.reduceAdd, Nat.reduceEqDiff, Nat.reduceLT, Nat.reduceLeDiff, Nat.reduceMul, Nat.reduceSub, reduceCtorEq, tbAHc1, Try.results21, h2, ht]
    refine ret_le ?_
    unfold keysA
    rw [if_pos ht]
    exact Le.two (Le.nil 1) (Le.refl _)
  · simp only [↓ruleA0, ↓ruleA1, ↓ruleA2, ruleB0, ruleB1, ruleB2, ruleB3, ruleL, ↓retK, ncall, Todo_eq, packV, eqTB, litB, litV, fitL, fit, veqL, veq, sbin, sun, nilB, cellsV, oneB, okC, vals, fillV, partsE, Int.reduceLE, Int.reduceLT, Int.reduceToNat, Nat.reduceAdd, Nat.reduceEqDiff, Nat.reduceLT, Nat.reduceLeDiff, Nat.reduceMul, Nat.reduceSub, reduceCtorEq, tbAHc1, Try.results21, h2, ht]
    refine AWP.nilRow 6 1 9 (by simp only [↓ruleA0, ↓ruleA1, ↓ruleA2, ruleB0, ruleB1, ruleB2, ruleB3, ruleL, ↓retK, ncall, Todo_eq, packV, eqTB, litB, litV, fitL, fit, veqL, veq, sbin, sun, nilB, cellsV, oneB, okC, vals, fillV, partsE, Int.reduceLE, Int.reduceLT, Int.reduceToNat, Nat.reduceAdd, Nat.reduceEqDiff, Nat.reduceLT, Nat.reduceLeDiff, Nat.reduceMul, Nat.reduceSub, reduceCtorEq, tbAHc1, Try.results21]) (by decide) ?_
    refine EX_forS Ty.mixed (by kernel_rfl) l.length (fun i S => ∃ y, S.σ 6 = .list (some y) 1 ((keysP (l.take i) t).map fun s => [vstr s]) ∧ S.rows = [⟨y, 1, 9⟩] ∧ S.σ 1 = vint t ∧ S.σ 2 = ptr b2 ∧ S.σ 7 = vint i ∧ S.boxes = [(b2, .c (cArr ⟨s, l⟩))]) ⟨_, _, List.Sublist.refl _, List.Sublist.refl _, nilv, ?_⟩ (fun i S hi ⟨y, g6, gr, g1, g2, g7, gb⟩ => ?_) (fun S ⟨y, g6, gr, g1, g2, g7, gb⟩ => ?_)
    · simp only [↓ruleA0, ↓ruleA1, ↓ruleA2, ruleB0, ruleB1, ruleB2, ruleB3, ruleL, ↓retK, ncall, Todo_eq, packV, eqTB, litB, litV, fitL, fit, veqL, veq, sbin, sun, nilB, cellsV, oneB, okC, vals, fillV, partsE, Int.reduceLE, Int.reduceLT, Int.reduceToNat, Nat.reduceAdd, Nat.reduceEqDiff, Nat.reduceLT, Nat.reduceLeDiff, Nat.reduceMul, Nat.reduceSub, reduceCtorEq, tbAHc1, Try.results21, List.length_map]
      rfl
    · have htk : keysP (l.take (i + 1)) t = keysP (l.take i) t ++ (if hasAt l[i] t = true then [l[i].key] else []) := by
        unfold keysP
        rw [List.take_succ_eq_append_getElem hi, List.filter_append, List.map_append]
        by_cases hx : hasAt l[i] t = true <;> simp [hx]
      have hlen : (keysP (l.take i) t).length ≤ i := by
        have := List.length_filter_le (fun g => hasAt g t) (l.take i)
        simp only [List.length_take] at this
        unfold keysP; rw [List.length_map]; omega
      have hdf := hds _ (List.getElem_mem hi)
      simp only [↓ruleA0, ↓ruleA1, ↓ruleA2, ruleB0, ruleB1, ruleB2, ruleB3, ruleL, ↓retK, ncall, Todo_eq, packV, eqTB, litB, litV, fitL, fit, veqL, veq, sbin, sun, nilB, cellsV, oneB, okC, vals, fillV, partsE, Int.reduceLE, Int.reduceLT, Int.reduceToNat, Nat.reduceAdd, Nat.reduceEqDiff, Nat.reduceLT, Nat.reduceLeDiff, Nat.reduceMul, Nat.reduceSub, reduceCtorEq, tbAHc1, Try.results21, g6, gr, g1, g2, g7, gb, Int.ofNat_lt, hi, List.length_map, getD_map]
      refine OkF_of _ (OkRow.list (at20_ok l[i].ds t hdf.1 hdf.okF)) ?_
      rw [at20_eq hdf.okN]
      by_cases hx : hasAt l[i] t = true
      · have hx' : (0 : Int) < ((rowsAt l[i].ds t).length : Int) := by
          have h0 : 0 < (rowsAt l[i].ds t).length := of_decide_eq_true hx
          omega
        simp only [↓ruleA0, ↓ruleA1, ↓ruleA2, ruleB0, ruleB1, ruleB2, ruleB3, ruleL, ↓retK, ncall, Todo_eq, packV, eqTB, litB, litV, fitL, fit, veqL, veq, sbin, sun, nilB, cellsV, oneB, okC, vals, fillV, partsE, Int.reduceLE, Int.reduceLT, Int.reduceToNat, Nat.reduceAdd, Nat.reduceEqDiff, Nat.reduceLT, Nat.reduceLeDiff, Nat.reduceMul, Nat.reduceSub, reduceCtorEq, tbAHc1, Try.results21, g6, gr, g1, g2, g7, gb, Int.ofNat_lt, hi, List.length_map, getD_map, hx']
        refine fun y2 => takeRF_2 ?_
        simp only [↓ruleA0, ↓ruleA1, ↓ruleA2, ruleB0, ruleB1, ruleB2, ruleB3, ruleL, ↓retK, ncall, Todo_eq, packV, eqTB, litB, litV, fitL, fit, veqL, veq, sbin, sun, nilB, cellsV, oneB, okC, vals, fillV, partsE, Int.reduceLE, Int.reduceLT, Int.reduceToNat, Nat.reduceAdd, Nat.reduceEqDiff, Nat.reduceLT, Nat.reduceLeDiff, Nat.reduceMul, Nat.reduceSub, reduceCtorEq, tbAHc1, Try.results21, g6, gr, g1, g2, g7, gb, wrap_succ hi (Nat.le_trans hl (by decide)), List.length_map]
        refine ⟨(by first | omega | (simp; omega)), fun y3 => ⟨_, [_], List.Sublist.refl _, List.Sublist.cons_cons _ (List.nil_sublist _), y3, ?_⟩⟩
        simp only [↓ruleA0, ↓ruleA1, ↓ruleA2, ruleB0, ruleB1, ruleB2, ruleB3, ruleL, ↓retK, ncall, Todo_eq, packV, eqTB, litB, litV, fitL, fit, veqL, veq, sbin, sun, nilB, cellsV, oneB, okC, vals, fillV, partsE, Int.reduceLE, Int.reduceLT, Int.reduceToNat, Nat.reduceAdd, Nat.reduceEqDiff, Nat.reduceLT, Nat.reduceLeDiff, Nat.reduceMul, Nat.reduceSub, reduceCtorEq, tbAHc1, Try.results21, g6, gr, g1, g2, g7, gb, wrap_succ hi (Nat.le_trans hl (by decide)), List.length_map]
        rw [htk, if_pos hx, List.map_append]
        rfl
      · have hx' : ¬ (0 : Int) < ((rowsAt l[i].ds t).length : Int) := by
          have h0 : ¬ 0 < (rowsAt l[i].ds t).length := fun h => hx (decide_eq_true h)
          omega
        simp only [↓ruleA0, ↓ruleA1, ↓ruleA2, ruleB0, ruleB1, ruleB2, ruleB3, ruleL, ↓retK, ncall, Todo_eq, packV, eqTB, litB, litV, fitL, fit, veqL, veq, sbin, sun, nilB, cellsV, oneB, okC, vals, fillV, partsE, Int.reduceLE, Int.reduceLT, Int.reduceToNat, Nat.reduceAdd, Nat.reduceEqDiff, Nat.reduceLT, Nat.reduceLeDiff, Nat.reduceMul, Nat.reduceSub, reduceCtorEq, tbAHc1, Try.results21, g6, gr, g1, g2, g7, gb, hx', List.length_map, wrap_succ hi (Nat.le_trans hl (by decide))]
        refine ⟨_, _, List.Sublist.refl _, List.Sublist.refl _, y, ?_⟩
        simp only [↓ruleA0, ↓ruleA1, ↓ruleA2, ruleB0, ruleB1, ruleB2, ruleB3, ruleL, ↓retK, ncall, Todo_eq, packV, eqTB, litB, litV, fitL, fit, veqL, veq, sbin, sun, nilB, cellsV, oneB, okC, vals, fillV, partsE, Int.reduceLE, Int.reduceLT, Int.reduceToNat, Nat.reduceAdd, Nat.reduceEqDiff, Nat.reduceLT, Nat.reduceLeDiff, Nat.reduceMul, Nat.reduceSub, reduceCtorEq, tbAHc1, Try.results21, g6, gr, g1, g2, g7, gb, wrap_succ hi (Nat.le_trans hl (by decide)), List.length_map]
        rw [htk, if_neg hx, List.append_nil]
    · simp only [↓ruleA0, ↓ruleA1, ↓ruleA2, ruleB0, ruleB1, ruleB2, ruleB3, ruleL, ↓retK, ncall, Todo_eq, packV, eqTB, litB, litV, fitL, fit, veqL, veq, sbin, sun, nilB, cellsV, oneB, okC, vals, fillV, partsE, Int.reduceLE, Int.reduceLT, Int.reduceToNat, Nat.reduceAdd, Nat.reduceEqDiff, Nat.reduceLT, Nat.reduceLeDiff, Nat.reduceMul, Nat.reduceSub, reduceCtorEq, tbAHc1, Try.results21, g6, gr, g1, g2, g7, gb, Int.ofNat_lt, Nat.lt_irrefl, List.length_map]
      rw [List.take_of_length_le (Nat.le_refl _)]
      refine ret_le ?_
      unfold keysA
      rw [if_neg ht]
      exact Le.two (Le.list _ _ _) (Le.refl _)
set_option linter.defProp false in
def tbAHc2 := (And.intro (And.intro (And.intro (And.intro (And.intro (And.intro Ty.sz3 (And.intro Ty.by3 Ty.ag3)) (And.intro Ty.zr3 (And.intro Ty.un3 Ty.sz4))) (And.intro (And.intro Ty.by4 (And.intro Ty.ag4 Ty.zr4)) (And.intro Ty.un4 (And.intro Ty.sz9 Ty.by9)))) (And.intro (And.intro (And.intro Ty.ag9 (And.intro Ty.zr9 Ty.un9)) (And.intro Ty.sz22 (And.intro Ty.by22 Ty.ag22))) (And.intro (And.intro Ty.zr22 (And.intro Ty.un22 Ty.sz24)) (And.intro (And.intro Ty.by24 Ty.ag24) (And.intro Ty.zr24 Ty.fl24_0))))) (And.intro (And.intro (And.intro (And.intro Ty.pl24_0 (And.intro Ty.fl24_1 Ty.pl24_1)) (And.intro Ty.sz29 (And.intro Ty.by29 Ty.ag29))) (And.intro (And.intro Ty.zr29 (And.intro Ty.un29 Ty.sz41)) (And.intro Ty.by41 (And.intro Ty.ag41 Ty.zr41)))) (And.intro (And.intro (And.intro Ty.un41 (And.intro Ty.sz53 Ty.by53)) (And.intro Ty.ag53 (And.intro Ty.zr53 Ty.fl53_0))) (And.intro (And.intro Ty.pl53_0 (And.intro Ty.fl53_1 Ty.pl53_1)) (And.intro (And.intro Ty.sz54 Ty.by54) (And.intro Ty.ag54 Ty.zr54)))))) (And.intro (And.intro (And.intro (And.intro (And.intro Ty.un54 (And.intro Ty.sz56 Ty.by56)) (And.intro Ty.ag56 (And.intro Ty.zr56 Ty.fl56_0))) (And.intro (And.intro Ty.pl56_0 (And.intro Ty.fl56_1 Ty.pl56_1)) (And.intro Ty.fl56_2 (And.intro Ty.pl56_2 Ty.fl56_3)))) (And.intro (And.intro (And.intro Ty.pl56_3 (And.intro Ty.fl56_4 Ty.pl56_4)) (And.intro Ty.fl56_5 (And.intro Ty.pl56_5 Ty.fl56_6))) (And.intro (And.intro Ty.pl56_6 (And.intro Ty.sz61 Ty.by61)) (And.intro (And.intro Ty.ag61 Ty.zr61) (And.intro Ty.fl61_0 Ty.pl61_0))))) (And.intro (And.intro (And.intro (And.intro Ty.fl61_1 (And.intro Ty.pl61_1 Ty.fl61_2)) (And.intro Ty.pl61_2 (And.intro Ty.sz65 Ty.by65))) (And.intro (And.intro Ty.ag65 (And.intro Ty.zr65 Ty.fl65_0)) (And.intro (And.intro Ty.pl65_0 Ty.fl65_1) (And.intro Ty.pl65_1 Ty.sz109)))) (And.intro (And.intro (And.intro Ty.by109 (And.intro Ty.ag109 Ty.zr109)) (And.intro Ty.fl109_0 (And.intro Ty.pl109_0 Ty.fl109_1))) (And.intro (And.intro Ty.pl109_1 (And.intro Ty.fl109_2 Ty.pl109_2)) (And.intro (And.intro Ty.eq53 Ty.eq109) (And.intro Ty.cb46 Ty.cb48)))))))
theorem ins22_ok (a : Arr) (d : List Dlt) (ha : fitA a) (hd : fitDs (allD a.groups ++ d)) : OkP Try.prog 31 [vArr a, vDlts d] (vRes (insA a d)) := by
  have hdl : d.length ≤ 4194304 := by have := hd.1; unfold big at this; rw [List.length_append] at this; omega
  have hda : (allD a.groups).length ≤ 4194304 := ha.2.1
  have hdt : (allD a.groups).length + d.length ≤ 4194304 := by have := hd.1; unfold big at this; rw [List.length_append] at this; omega
  refine Ok.of_exM [(6, 2)] Ty.mixed Try.func31 rfl (by simp [Try.ntmps31]) (by kernel_rfl) fun F w0 I0 => ?_
  simp only [↓ruleA0, ↓ruleA1, ↓ruleA2, ruleB0, ruleB1, ruleB2, ruleB3, ruleL, ↓retK, ncall, Todo_eq, packV, eqTB, litB, litV, fitL, fit, veqL, veq, sbin, sun, nilB, cellsV, oneB, okC, vals, fillV, partsE, Int.reduceLE, Int.reduceLT, Int.reduceToNat, Nat.reduceAdd, Nat.reduceEqDiff, Nat.reduceLT, Nat.reduceLeDiff, Nat.reduceMul, Nat.reduceSub, reduceCtorEq, tbAHc2, Try.results31]
  refine fun b2 h2 => ?_; replace h2 := newb h2; try simp only [Nb] at h2
  simp only [↓ruleA0, ↓ruleA1, ↓ruleA2, ruleB0, ruleB1, ruleB2, ruleB3, ruleL, ↓retK, ncall, Todo_eq, packV, eqTB, litB, litV, fitL, fit, veqL, veq, sbin, sun, nilB, cellsV, oneB, okC, vals, fillV, partsE, Int.reduceLE, Int.reduceLT, Int.reduceToNat, Nat.reduceAdd, Nat.reduceEqDiff, Nat.reduceLT, Nat.reduceLeDiff, Nat.reduceMul, Nat.reduceSub, reduceCtorEq, tbAHc2, Try.results31]
  refine fun b4 h4 => ?_; replace h4 := newb h4; try simp only [Nb] at h4
  simp only [↓ruleA0, ↓ruleA1, ↓ruleA2, ruleB0, ruleB1, ruleB2, ruleB3, ruleL, ↓retK, ncall, Todo_eq, packV, eqTB, litB, litV, fitL, fit, veqL, veq, sbin, sun, nilB, cellsV, oneB, okC, vals, fillV, partsE, Int.reduceLE, Int.reduceLT, Int.reduceToNat, Nat.reduceAdd, Nat.reduceEqDiff, Nat.reduceLT, Nat.reduceLeDiff, Nat.reduceMul, Nat.reduceSub, reduceCtorEq, tbAHc2, Try.results31, h2, h4]
  refine EX_for Ty.mixed (by kernel_rfl) d.length (fun i S => (∀ j, (h : j < d.length) → j < i → ¬ d[j].tick < a.since) ∧ S.σ 1 = vDlts d ∧ S.σ 2 = ptr b2 ∧ S.σ 4 = ptr b4 ∧ S.σ 5 = vint 0 ∧ S.σ 6 = vint i ∧ S.rows = [] ∧ S.boxes = [(b4, .c [vint 0, nilS]), (b2, .c (cArr a))]) ⟨0, by simp, ?_⟩ (fun i S hi ⟨ho, g1, g2, g4, g5, g6, gr, gb⟩ => ?_) (fun S ⟨ho, g1, g2, g4, g5, g6, gr, gb⟩ => ?_)
  · simp only [↓ruleA0, ↓ruleA1, ↓ruleA2, ruleB0, ruleB1, ruleB2, ruleB3, ruleL, ↓retK, ncall, Todo_eq, packV, eqTB, litB, litV, fitL, fit, veqL, veq, sbin, sun, nilB, cellsV, oneB, okC, vals, fillV, partsE, Int.reduceLE, Int.reduceLT, Int.reduceToNat, Nat.reduceAdd, Nat.reduceEqDiff, Nat.reduceLT, Nat.reduceLeDiff, Nat.reduceMul, Nat.reduceSub, reduceCtorEq, tbAHc2, Try.results31, h2, h4]
  · by_cases hx : d[i].tick < a.since
    · simp only [↓ruleA0, ↓ruleA1, ↓ruleA2, ruleB0, ruleB1, ruleB2, ruleB3, ruleL, ↓retK, ncall, Todo_eq, packV, eqTB, litB, litV, fitL, fit, veqL, veq, sbin, sun, nilB, cellsV, oneB, okC, vals, fillV, partsE, Int.reduceLE, Int.reduceLT, Int.reduceToNat, Nat.reduceAdd, Nat.reduceEqDiff, Nat.reduceLT, Nat.reduceLeDiff, Nat.reduceMul, Nat.reduceSub, reduceCtorEq, tbAHc2, Try.results31, g1, g2, g4, g5, g6, gr, gb, h2, h4, Int.ofNat_lt, hi, List.length_map, getD_map, hx]
      refine ret_le ?_
      unfold insA
      rw [if_pos (show lateB a d = true from List.any_eq_true.2 ⟨_, List.getElem_mem hi, decide_eq_true hx⟩)]
      exact Le.two (Le.arr0 _) (Le.refl _)
    · simp only [↓ruleA0, ↓ruleA1, ↓ruleA2, ruleB0, ruleB1, ruleB2, ruleB3, ruleL, ↓retK, ncall, Todo_eq, packV, eqTB, litB, litV, fitL, fit, veqL, veq, sbin, sun, nilB, cellsV, oneB, okC, vals, fillV, partsE, Int.reduceLE, Int.reduceLT, Int.reduceToNat, Nat.reduceAdd, Nat.reduceEqDiff, Nat.reduceLT, Nat.reduceLeDiff, Nat.reduceMul, Nat.reduceSub, reduceCtorEq, tbAHc2, Try.results31, g1, g2, g4, g5, g6, gr, gb, h2, h4, Int.ofNat_lt, hi, List.length_map, getD_map, hx, wrap_succ hi (Nat.le_trans hdl (by decide))]
      refine ⟨0, fun j h hj => ?_, by first | rfl | (rw [wrap_succ hi (Nat.le_trans hdl (by decide))]; trivial) | (refine ⟨?_, rfl⟩; rw [wrap_succ hi (Nat.le_trans hdl (by decide))])⟩
      by_cases e : j = i
      · subst e; exact hx
      · exact ho j h (by omega)
  · simp only [↓ruleA0, ↓ruleA1, ↓ruleA2, ruleB0, ruleB1, ruleB2, ruleB3, ruleL, ↓retK, ncall, Todo_eq, packV, eqTB, litB, litV, fitL, fit, veqL, veq, sbin, sun, nilB, cellsV, oneB, okC, vals, fillV, partsE, Int.reduceLE, Int.reduceLT, Int.reduceToNat, Nat.reduceAdd, Nat.reduceEqDiff, Nat.reduceLT, Nat.reduceLeDiff, Nat.reduceMul, Nat.reduceSub, reduceCtorEq, tbAHc2, Try.results31, g1, g2, g4, g5, g6, gr, gb, h2, h4, Int.ofNat_lt, Nat.lt_irrefl, List.length_map]
    refine OkR_row (all_ok a ha.1 ha.2.1) fun y => ?_
    simp only [↓ruleA0, ↓ruleA1, ↓ruleA2, ruleB0, ruleB1, ruleB2, ruleB3, ruleL, ↓retK, ncall, Todo_eq, packV, eqTB, litB, litV, fitL, fit, veqL, veq, sbin, sun, nilB, cellsV, oneB, okC, vals, fillV, partsE, Int.reduceLE, Int.reduceLT, Int.reduceToNat, Nat.reduceAdd, Nat.reduceEqDiff, Nat.reduceLT, Nat.reduceLeDiff, Nat.reduceMul, Nat.reduceSub, reduceCtorEq, tbAHc2, Try.results31, g1, g2, g4, g5, g6, gr, gb, h2, h4, List.length_map]
    refine ⟨(by first | omega | (simp; omega)), fun y2 => ?_⟩
    refine OkR_of _ (Ok.le (.cons (Le.refl _) (.cons (by rw [← List.map_append]; exact Le.list _ _ _) .nil)) (of20_ok a.since (allD a.groups ++ d) hd.1 hd.okF)) ?_
    simp only [↓ruleA0, ↓ruleA1, ↓ruleA2, ruleB0, ruleB1, ruleB2, ruleB3, ruleL, ↓retK, ncall, Todo_eq, packV, eqTB, litB, litV, fitL, fit, veqL, veq, sbin, sun, nilB, cellsV, oneB, okC, vals, fillV, partsE, Int.reduceLE, Int.reduceLT, Int.reduceToNat, Nat.reduceAdd, Nat.reduceEqDiff, Nat.reduceLT, Nat.reduceLeDiff, Nat.reduceMul, Nat.reduceSub, reduceCtorEq, tbAHc2, Try.results31, g1, g2, g4, g5, g6, gr, gb, h2, h4]
    refine ret_le ?_
    unfold insA
    have hlt : ¬ lateB a d = true := fun h => by
      obtain ⟨x, hx, h'⟩ := List.any_eq_true.1 h
      obtain ⟨j, hj, rfl⟩ := List.getElem_of_mem hx
      exact ho j hj hj (of_decide_eq_true h')
    rw [if_neg hlt]
    exact Le.refl _

theorem inI_take' (rows : List Rw) (lo hi : Int) (i : Nat) (h : i < rows.length) : (rows.take (i + 1)).filter (inI lo hi) = (rows.take i).filter (inI lo hi) ++ (if inI lo hi rows[i] = true then [rows[i]] else []) := by
  rw [List.take_succ_eq_append_getElem h, List.filter_append]
  by_cases hx : inI lo hi rows[i] = true <;> simp [hx]
theorem rowsL_take (l : List Grp) (k : Str) (lo hi t : Int) (i : Nat) (h : i < l.length) : rowsL (l.take (i + 1)) k lo hi t = rowsL (l.take i) k lo hi t ++ (if l[i].key = k then (rowsAt l[i].ds t).filter (inI lo hi) else []) := by
  unfold rowsL; rw [List.take_succ_eq_append_getElem h, List.flatMap_append]; simp
theorem rowsAt_le (d : List Dlt) (t : Int) : (rowsAt d t).length ≤ d.length := by
  unfold rowsAt rowsM
  rw [List.length_map]
  refine Nat.le_trans (List.length_filter_le _ _) (Nat.le_trans (consM_len _) ?_)
  unfold earlyM; rw [List.length_map]; exact List.length_filter_le _ _
theorem rowsL_len (l : List Grp) (k : Str) (lo hi t : Int) (i : Nat) (h : i ≤ l.length) : (rowsL (l.take i) k lo hi t).length ≤ (allD (l.take i)).length := by
  induction i with
  | zero => simp [rowsL]
  | succ i ih =>
    rw [rowsL_take l k lo hi t i h, allD_take l i h, List.length_append, List.length_append]
    have := ih (by omega)
    have h2 : (if l[i].key = k then (rowsAt l[i].ds t).filter (inI lo hi) else []).length ≤ l[i].ds.length := by
      split
      · exact Nat.le_trans (List.length_filter_le _ _) (rowsAt_le _ _)
      · simp
    omega
set_option linter.defProp false in
def tbAHc3 := (And.intro (And.intro (And.intro (And.intro (And.intro (And.intro Ty.sz3 (And.intro Ty.by3 Ty.ag3)) (And.intro (And.intro Ty.zr3 Ty.un3) (And.intro Ty.sz4 Ty.by4))) (And.intro (And.intro Ty.ag4 (And.intro Ty.zr4 Ty.un4)) (And.intro (And.intro Ty.sz9 Ty.by9) (And.intro Ty.ag9 Ty.zr9)))) (And.intro (And.intro (And.intro Ty.un9 (And.intro Ty.sz22 Ty.by22)) (And.intro (And.intro Ty.ag22 Ty.zr22) (And.intro Ty.un22 Ty.sz24))) (And.intro (And.intro Ty.by24 (And.intro Ty.ag24 Ty.zr24)) (And.intro (And.intro Ty.fl24_0 Ty.pl24_0) (And.intro Ty.fl24_1 Ty.pl24_1))))) (And.intro (And.intro (And.intro (And.intro Ty.sz26 (And.intro Ty.by26 Ty.ag26)) (And.intro (And.intro Ty.zr26 Ty.fl26_0) (And.intro Ty.pl26_0 Ty.fl26_1))) (And.intro (And.intro Ty.pl26_1 (And.intro Ty.sz29 Ty.by29)) (And.intro (And.intro Ty.ag29 Ty.zr29) (And.intro Ty.un29 Ty.sz32)))) (And.intro (And.intro (And.intro Ty.by32 (And.intro Ty.ag32 Ty.zr32)) (And.intro (And.intro Ty.un32 Ty.sz41) (And.intro Ty.by41 Ty.ag41))) (And.intro (And.intro (And.intro Ty.zr41 Ty.un41) (And.intro Ty.sz53 Ty.by53)) (And.intro (And.intro Ty.ag53 Ty.zr53) (And.intro Ty.fl53_0 Ty.pl53_0)))))) (And.intro (And.intro (And.intro (And.intro (And.intro Ty.fl53_1 (And.intro Ty.pl53_1 Ty.sz54)) (And.intro (And.intro Ty.by54 Ty.ag54) (And.intro Ty.zr54 Ty.un54))) (And.intro (And.intro Ty.sz56 (And.intro Ty.by56 Ty.ag56)) (And.intro (And.intro Ty.zr56 Ty.fl56_0) (And.intro Ty.pl56_0 Ty.fl56_1)))) (And.intro (And.intro (And.intro Ty.pl56_1 (And.intro Ty.fl56_2 Ty.pl56_2)) (And.intro (And.intro Ty.fl56_3 Ty.pl56_3) (And.intro Ty.fl56_4 Ty.pl56_4))) (And.intro (And.intro Ty.fl56_5 (And.intro Ty.pl56_5 Ty.fl56_6)) (And.intro (And.intro Ty.pl56_6 Ty.sz61) (And.intro Ty.by61 Ty.ag61))))) (And.intro (And.intro (And.intro (And.intro Ty.zr61 (And.intro Ty.fl61_0 Ty.pl61_0)) (And.intro (And.intro Ty.fl61_1 Ty.pl61_1) (And.intro Ty.fl61_2 Ty.pl61_2))) (And.intro (And.intro Ty.sz65 (And.intro Ty.by65 Ty.ag65)) (And.intro (And.intro Ty.zr65 Ty.fl65_0) (And.intro Ty.pl65_0 Ty.fl65_1)))) (And.intro (And.intro (And.intro Ty.pl65_1 (And.intro Ty.sz109 Ty.by109)) (And.intro (And.intro Ty.ag109 Ty.zr109) (And.intro Ty.fl109_0 Ty.pl109_0))) (And.intro (And.intro (And.intro Ty.fl109_1 Ty.pl109_1) (And.intro Ty.fl109_2 Ty.pl109_2)) (And.intro (And.intro Ty.eq26 Ty.eq53) (And.intro Ty.eq109 Ty.cb44)))))))
theorem rows22_ok (a : Arr) (key : Str) (lo hi t : Int) (ha : fitA a) (hg : GsOk a.groups) : OkP Try.prog 20 [vArr a, vstr key, .agg [vint lo, vint hi], vint t] (vRows2 (rowsA a key lo hi t)) := by
  have hrk := rowsL_eq hg key lo hi t
  obtain ⟨s, l⟩ := a
  obtain ⟨hl, hds⟩ := ha.fitG
  have hal : (allD l).length ≤ 4194304 := ha.2.1
  simp only at hl hds hg
  unfold big at hl
  refine Ok.of_ex Ty.mixed Try.func20 rfl (by simp [Try.ntmps20]) (by kernel_rfl) fun F w0 I0 => ?_
  simp only [↓ruleA0, ↓ruleA1, ↓ruleA2, ruleB0, ruleB1, ruleB2, ruleB3, ruleL, ↓retK, ncall, Todo_eq, packV, eqTB, litB, litV, fitL, fit, veqL, veq, sbin, sun, nilB, cellsV, oneB, okC, vals, fillV, partsE, Int.reduceLE, Int.reduceLT, Int.reduceToNat, Nat.reduceAdd, Nat.reduceEqDiff, Nat.reduceLT, Nat.reduceLeDiff, Nat.reduceMul, Nat.reduceSub, reduceCtorEq, tbAHc3, Try.results20]
  refine fun b4 h4 => ?_; replace h4 := newb h4; try simp only [Nb] at h4
  simp only [↓ruleA0, ↓ruleA1, ↓ruleA2, ruleB0, ruleB1, ruleB2, ruleB3, ruleL, ↓retK, ncall, Todo_eq, packV, eqTB, litB, litV, fitL, fit, veqL, veq, sbin, sun, nilB, cellsV, oneB, okC, vals, fillV, partsE, Int.reduceLE, Int.reduceLT, Int.reduceToNat, Nat.reduceAdd, Nat.reduceEqDiff, Nat.reduceLT, Nat.reduceLeDiff, Nat.reduceMul, Nat.reduceSub, reduceCtorEq, tbAHc3, Try.results20]
  refine fun b6 h6 => ?_; replace h6 := newb h6; try simp only [Nb] at h6
  by_cases ht : t < s
  · simp only [↓ruleA0, ↓ruleA1, ↓ruleA2, ruleB0, ruleB1, ruleB2, ruleB3, ruleL, ↓retK, ncall, Todo_eq, packV, eqTB, litB, litV, fitL, fit, veqL, veq, sbin, sun, nilB, cellsV, oneB, okC, vals, fillV, partsE, Int.reduceLE, Int.reduceLT, Int.reduceToNat, Nat.reduceAdd, Nat.reduceEqDiff, Nat.reduceLT, Nat.reduceLeDiff, Nat.reduceMul, Nat.reduceSub, reduceCtorEq, tbAHc3, Try.results20, h4, h6, ht]
    refine ret_le ?_
    unfold rowsA
    rw [if_pos ht]
    exact Le.two (Le.nil 8) (Le.refl _)
  · simp only [↓ruleA0, ↓ruleA1, ↓ruleA2, ruleB0, ruleB1, ruleB2, ruleB3, ruleL, ↓retK, ncall, Todo_eq, packV, eqTB, litB, litV, fitL, fit, veqL, veq, sbin, sun, nilB, cellsV, oneB, okC, vals, fillV, partsE, Int.reduceLE, Int.reduceLT, Int.reduceToNat, Nat.reduceAdd, Nat.reduceEqDiff, Nat.reduceLT, Nat.reduceLeDiff, Nat.reduceMul, Nat.reduceSub, reduceCtorEq, tbAHc3, Try.results20, h4, h6, ht]
    refine AWP.nilRow 10 8 56 (by simp only [↓ruleA0, ↓ruleA1, ↓ruleA2, ruleB0, ruleB1, ruleB2, ruleB3, ruleL, ↓retK, ncall, Todo_eq, packV, eqTB, litB, litV, fitL, fit, veqL, veq, sbin, sun, nilB, cellsV, oneB, okC, vals, fillV, partsE, Int.reduceLE, Int.reduceLT, Int.reduceToNat, Nat.reduceAdd, Nat.reduceEqDiff, Nat.reduceLT, Nat.reduceLeDiff, Nat.reduceMul, Nat.reduceSub, reduceCtorEq, tbAHc3, Try.results20]) (by decide) ?_
    refine EX_forS Ty.mixed (by kernel_rfl) l.length (fun i S => ∃ y, S.σ 10 = .list (some y) 8 ((rowsL (l.take i) key lo hi t).map cRow) ∧ S.rows = [⟨y, 8, 56⟩] ∧ S.σ 1 = vstr key ∧ S.σ 3 = vint t ∧ S.σ 4 = ptr b4 ∧ S.σ 6 = ptr b6 ∧ S.σ 11 = vint i ∧ S.boxes = [(b6, .c [vint lo, vint hi]), (b4, .c (cArr ⟨s, l⟩))]) ⟨_, _, List.Sublist.refl _, List.Sublist.refl _, nilv, ?_⟩ (fun i S hi' ⟨y, g10, gr, g1, g3, g4, g6, g11, gb⟩ => ?_) (fun S ⟨y, g10, gr, g1, g3, g4, g6, g11, gb⟩ => ?_)
    · simp only [↓ruleA0, ↓ruleA1, ↓ruleA2, ruleB0, ruleB1, ruleB2, ruleB3, ruleL, ↓retK, ncall, Todo_eq, packV, eqTB, litB, litV, fitL, fit, veqL, veq, sbin, sun, nilB, cellsV, oneB, okC, vals, fillV, partsE, Int.reduceLE, Int.reduceLT, Int.reduceToNat, Nat.reduceAdd, Nat.reduceEqDiff, Nat.reduceLT, Nat.reduceLeDiff, Nat.reduceMul, Nat.reduceSub, reduceCtorEq, tbAHc3, Try.results20, h6]
      try simp [rowsL]
    · have htk := rowsL_take l key lo hi t i hi'
      have hlen := rowsL_len l key lo hi t i (Nat.le_of_lt hi')
      have hal' := allD_len l i hi'
      have hdf := hds _ (List.getElem_mem hi')
      by_cases hk : l[i].key = key
      · rw [if_pos hk] at htk
        simp only [↓ruleA0, ↓ruleA1, ↓ruleA2, ruleB0, ruleB1, ruleB2, ruleB3, ruleL, ↓retK, ncall, Todo_eq, packV, eqTB, litB, litV, fitL, fit, veqL, veq, sbin, sun, nilB, cellsV, oneB, okC, vals, fillV, partsE, Int.reduceLE, Int.reduceLT, Int.reduceToNat, Nat.reduceAdd, Nat.reduceEqDiff, Nat.reduceLT, Nat.reduceLeDiff, Nat.reduceMul, Nat.reduceSub, reduceCtorEq, tbAHc3, Try.results20, g10, gr, g1, g3, g4, g6, g11, gb, h4, h6, Int.ofNat_lt, hi', List.length_map, getD_map, hk]
        refine OkF_of _ (OkRow.list (at20_ok l[i].ds t hdf.1 hdf.okF)) ?_
        rw [at20_eq hdf.okN]
        have hRl := rowsAt_le l[i].ds t
        generalize hR : rowsAt l[i].ds t = R at htk hRl
        generalize hL : rowsL (l.take i) key lo hi t = L at g10 htk hlen
        simp only [↓ruleA0, ↓ruleA1, ↓ruleA2, ruleB0, ruleB1, ruleB2, ruleB3, ruleL, ↓retK, ncall, Todo_eq, packV, eqTB, litB, litV, fitL, fit, veqL, veq, sbin, sun, nilB, cellsV, oneB, okC, vals, fillV, partsE, Int.reduceLE, Int.reduceLT, Int.reduceToNat, Nat.reduceAdd, Nat.reduceEqDiff, Nat.reduceLT, Nat.reduceLeDiff, Nat.reduceMul, Nat.reduceSub, reduceCtorEq, tbAHc3, Try.results20, g10, gr, g1, g3, g4, g6, g11, gb, h4, h6, List.length_map]
        refine EX_forS Ty.mixed (by kernel_rfl) R.length (fun j S => ∃ y, S.σ 10 = .list (some y) 8 ((L ++ (R.take j).filter (inI lo hi)).map cRow) ∧ S.rows = [⟨y, 8, 56⟩] ∧ S.σ 1 = vstr key ∧ S.σ 3 = vint t ∧ S.σ 4 = ptr b4 ∧ S.σ 6 = ptr b6 ∧ S.σ 11 = vint i ∧ S.boxes = [(b6, .c [vint lo, vint hi]), (b4, .c (cArr ⟨s, l⟩))] ∧ S.σ 12 = vRows R ∧ S.σ 13 = vint j) ⟨_, _, List.Sublist.refl _, List.Sublist.refl _, y, ?_⟩ (fun j S hj ⟨y2, g10, gr, g1, g3, g4, g6, g11, gb, g12, g13⟩ => ?_) (fun S ⟨y2, g10, gr, g1, g3, g4, g6, g11, gb, g12, g13⟩ => ?_)
        · simp only [↓ruleA0, ↓ruleA1, ↓ruleA2, ruleB0, ruleB1, ruleB2, ruleB3, ruleL, ↓retK, ncall, Todo_eq, packV, eqTB, litB, litV, fitL, fit, veqL, veq, sbin, sun, nilB, cellsV, oneB, okC, vals, fillV, partsE, Int.reduceLE, Int.reduceLT, Int.reduceToNat, Nat.reduceAdd, Nat.reduceEqDiff, Nat.reduceLT, Nat.reduceLeDiff, Nat.reduceMul, Nat.reduceSub, reduceCtorEq, tbAHc3, Try.results20, g10, gr, g1, g3, g4, g6, g11, gb, h6]
          try simp
        · have hjk := inI_take' R lo hi j hj
          have hjl : ((R.take j).filter (inI lo hi)).length ≤ j := by
            have := List.length_filter_le (inI lo hi) (R.take j)
            simp only [List.length_take] at this
            omega
          have hLl : (L ++ (R.take j).filter (inI lo hi)).length ≤ 4194304 := by rw [List.length_append]; omega
          by_cases hx1 : lo ≤ R[j].event
          · by_cases hx2 : R[j].event ≤ hi
            · simp only [↓ruleA0, ↓ruleA1, ↓ruleA2, ruleB0, ruleB1, ruleB2, ruleB3, ruleL, ↓retK, ncall, Todo_eq, packV, eqTB, litB, litV, fitL, fit, veqL, veq, sbin, sun, nilB, cellsV, oneB, okC, vals, fillV, partsE, Int.reduceLE, Int.reduceLT, Int.reduceToNat, Nat.reduceAdd, Nat.reduceEqDiff, Nat.reduceLT, Nat.reduceLeDiff, Nat.reduceMul, Nat.reduceSub, reduceCtorEq, tbAHc3, Try.results20, g10, gr, g1, g3, g4, g6, g11, gb, g12, g13, h4, h6, Int.ofNat_lt, hj, List.length_map, getD_map, hx1, hx2]
              refine fun y3 => takeRF_2 ?_
              simp only [↓ruleA0, ↓ruleA1, ↓ruleA2, ruleB0, ruleB1, ruleB2, ruleB3, ruleL, ↓retK, ncall, Todo_eq, packV, eqTB, litB, litV, fitL, fit, veqL, veq, sbin, sun, nilB, cellsV, oneB, okC, vals, fillV, partsE, Int.reduceLE, Int.reduceLT, Int.reduceToNat, Nat.reduceAdd, Nat.reduceEqDiff, Nat.reduceLT, Nat.reduceLeDiff, Nat.reduceMul, Nat.reduceSub, reduceCtorEq, tbAHc3, Try.results20, g10, gr, g1, g3, g4, g6, g11, gb, g12, g13, h4, h6, wrap_succ hj (show R.length ≤ 9223372036854775807 by omega), List.length_map]
              refine ⟨by omega, fun y4 => ⟨_, [_], List.Sublist.refl _, List.Sublist.cons_cons _ (List.nil_sublist _), y4, ?_⟩⟩
              simp only [↓ruleA0, ↓ruleA1, ↓ruleA2, ruleB0, ruleB1, ruleB2, ruleB3, ruleL, ↓retK, ncall, Todo_eq, packV, eqTB, litB, litV, fitL, fit, veqL, veq, sbin, sun, nilB, cellsV, oneB, okC, vals, fillV, partsE, Int.reduceLE, Int.reduceLT, Int.reduceToNat, Nat.reduceAdd, Nat.reduceEqDiff, Nat.reduceLT, Nat.reduceLeDiff, Nat.reduceMul, Nat.reduceSub, reduceCtorEq, tbAHc3, Try.results20, g10, gr, g1, g3, g4, g6, g11, gb, g12, g13, h4, h6, wrap_succ hj (show R.length ≤ 9223372036854775807 by omega), List.length_map]
              rw [hjk, if_pos (by simp [inI, hx1, hx2]), ← List.append_assoc, List.map_append (l₂ := [R[j]])]
              rfl
            · simp only [↓ruleA0, ↓ruleA1, ↓ruleA2, ruleB0, ruleB1, ruleB2, ruleB3, ruleL, ↓retK, ncall, Todo_eq, packV, eqTB, litB, litV, fitL, fit, veqL, veq, sbin, sun, nilB, cellsV, oneB, okC, vals, fillV, partsE, Int.reduceLE, Int.reduceLT, Int.reduceToNat, Nat.reduceAdd, Nat.reduceEqDiff, Nat.reduceLT, Nat.reduceLeDiff, Nat.reduceMul, Nat.reduceSub, reduceCtorEq, tbAHc3, Try.results20, g10, gr, g1, g3, g4, g6, g11, gb, g12, g13, h4, h6, Int.ofNat_lt, hj, List.length_map, getD_map, hx1, hx2, wrap_succ hj (show R.length ≤ 9223372036854775807 by omega)]
              refine ⟨_, _, List.Sublist.refl _, List.Sublist.refl _, y2, ?_⟩
              simp only [↓ruleA0, ↓ruleA1, ↓ruleA2, ruleB0, ruleB1, ruleB2, ruleB3, ruleL, ↓retK, ncall, Todo_eq, packV, eqTB, litB, litV, fitL, fit, veqL, veq, sbin, sun, nilB, cellsV, oneB, okC, vals, fillV, partsE, Int.reduceLE, Int.reduceLT, Int.reduceToNat, Nat.reduceAdd, Nat.reduceEqDiff, Nat.reduceLT, Nat.reduceLeDiff, Nat.reduceMul, Nat.reduceSub, reduceCtorEq, tbAHc3, Try.results20, g10, gr, g1, g3, g4, g6, g11, gb, g12, g13, h4, h6, wrap_succ hj (show R.length ≤ 9223372036854775807 by omega), List.length_map]
              rw [hjk, if_neg (by simp [inI, hx1, hx2]), List.append_nil]
          · simp only [↓ruleA0, ↓ruleA1, ↓ruleA2, ruleB0, ruleB1, ruleB2, ruleB3, ruleL, ↓retK, ncall, Todo_eq, packV, eqTB, litB, litV, fitL, fit, veqL, veq, sbin, sun, nilB, cellsV, oneB, okC, vals, fillV, partsE, Int.reduceLE, Int.reduceLT, Int.reduceToNat, Nat.reduceAdd, Nat.reduceEqDiff, Nat.reduceLT, Nat.reduceLeDiff, Nat.reduceMul, Nat.reduceSub, reduceCtorEq, tbAHc3, Try.results20, g10, gr, g1, g3, g4, g6, g11, gb, g12, g13, h4, h6, Int.ofNat_lt, hj, List.length_map, getD_map, hx1, wrap_succ hj (show R.length ≤ 9223372036854775807 by omega)]
            refine ⟨_, _, List.Sublist.refl _, List.Sublist.refl _, y2, ?_⟩
            simp only [↓ruleA0, ↓ruleA1, ↓ruleA2, ruleB0, ruleB1, ruleB2, ruleB3, ruleL, ↓retK, ncall, Todo_eq, packV, eqTB, litB, litV, fitL, fit, veqL, veq, sbin, sun, nilB, cellsV, oneB, okC, vals, fillV, partsE, Int.reduceLE, Int.reduceLT, Int.reduceToNat, Nat.reduceAdd, Nat.reduceEqDiff, Nat.reduceLT, Nat.reduceLeDiff, Nat.reduceMul, Nat.reduceSub, reduceCtorEq, tbAHc3, Try.results20, g10, gr, g1, g3, g4, g6, g11, gb, g12, g13, h4, h6, wrap_succ hj (show R.length ≤ 9223372036854775807 by omega), List.length_map]
            rw [hjk, if_neg (by simp [inI, hx1]), List.append_nil]
        · simp only [↓ruleA0, ↓ruleA1, ↓ruleA2, ruleB0, ruleB1, ruleB2, ruleB3, ruleL, ↓retK, ncall, Todo_eq, packV, eqTB, litB, litV, fitL, fit, veqL, veq, sbin, sun, nilB, cellsV, oneB, okC, vals, fillV, partsE, Int.reduceLE, Int.reduceLT, Int.reduceToNat, Nat.reduceAdd, Nat.reduceEqDiff, Nat.reduceLT, Nat.reduceLeDiff, Nat.reduceMul, Nat.reduceSub, reduceCtorEq, tbAHc3, Try.results20, g10, gr, g1, g3, g4, g6, g11, gb, g12, g13, h4, h6, Int.ofNat_lt, Nat.lt_irrefl, List.length_map, wrap_succ hi' (Nat.le_trans hl (by decide))]
          refine ⟨_, _, List.Sublist.refl _, List.Sublist.refl _, y2, ?_⟩
          simp only [↓ruleA0, ↓ruleA1, ↓ruleA2, ruleB0, ruleB1, ruleB2, ruleB3, ruleL, ↓retK, ncall, Todo_eq, packV, eqTB, litB, litV, fitL, fit, veqL, veq, sbin, sun, nilB, cellsV, oneB, okC, vals, fillV, partsE, Int.reduceLE, Int.reduceLT, Int.reduceToNat, Nat.reduceAdd, Nat.reduceEqDiff, Nat.reduceLT, Nat.reduceLeDiff, Nat.reduceMul, Nat.reduceSub, reduceCtorEq, tbAHc3, Try.results20, g10, gr, g1, g3, g4, g6, g11, gb, g12, g13, h4, h6, wrap_succ hi' (Nat.le_trans hl (by decide)), List.length_map]
          rw [htk, List.take_of_length_le (Nat.le_refl _)]
      · rw [if_neg hk, List.append_nil] at htk
        simp only [↓ruleA0, ↓ruleA1, ↓ruleA2, ruleB0, ruleB1, ruleB2, ruleB3, ruleL, ↓retK, ncall, Todo_eq, packV, eqTB, litB, litV, fitL, fit, veqL, veq, sbin, sun, nilB, cellsV, oneB, okC, vals, fillV, partsE, Int.reduceLE, Int.reduceLT, Int.reduceToNat, Nat.reduceAdd, Nat.reduceEqDiff, Nat.reduceLT, Nat.reduceLeDiff, Nat.reduceMul, Nat.reduceSub, reduceCtorEq, tbAHc3, Try.results20, g10, gr, g1, g3, g4, g6, g11, gb, h4, h6, Int.ofNat_lt, hi', List.length_map, getD_map, hk, wrap_succ hi' (Nat.le_trans hl (by decide))]
        refine ⟨_, _, List.Sublist.refl _, List.Sublist.refl _, y, ?_⟩
        simp only [↓ruleA0, ↓ruleA1, ↓ruleA2, ruleB0, ruleB1, ruleB2, ruleB3, ruleL, ↓retK, ncall, Todo_eq, packV, eqTB, litB, litV, fitL, fit, veqL, veq, sbin, sun, nilB, cellsV, oneB, okC, vals, fillV, partsE, Int.reduceLE, Int.reduceLT, Int.reduceToNat, Nat.reduceAdd, Nat.reduceEqDiff, Nat.reduceLT, Nat.reduceLeDiff, Nat.reduceMul, Nat.reduceSub, reduceCtorEq, tbAHc3, Try.results20, g10, gr, g1, g3, g4, g6, g11, gb, h4, h6, wrap_succ hi' (Nat.le_trans hl (by decide)), List.length_map]
        rw [htk]
    · simp only [↓ruleA0, ↓ruleA1, ↓ruleA2, ruleB0, ruleB1, ruleB2, ruleB3, ruleL, ↓retK, ncall, Todo_eq, packV, eqTB, litB, litV, fitL, fit, veqL, veq, sbin, sun, nilB, cellsV, oneB, okC, vals, fillV, partsE, Int.reduceLE, Int.reduceLT, Int.reduceToNat, Nat.reduceAdd, Nat.reduceEqDiff, Nat.reduceLT, Nat.reduceLeDiff, Nat.reduceMul, Nat.reduceSub, reduceCtorEq, tbAHc3, Try.results20, g10, gr, g1, g3, g4, g6, g11, gb, h4, h6, Int.ofNat_lt, Nat.lt_irrefl, List.length_map]
      rw [List.take_of_length_le (Nat.le_refl _)]
      refine ret_le ?_
      unfold rowsA
      rw [if_neg ht, ← hrk]
      exact Le.two (Le.list _ _ _) (Le.refl _)
end Go.Proofs.Ytopfanlkbepemaa

/- Arrangements: contracts, the reference's Check; few, right, row. -/
set_option linter.unusedSimpArgs false
set_option maxRecDepth 100000
namespace Go.Proofs.Ytopfanlkbepemaa
open Go.VL Go.Ar Go.Proofs.Ytopfanlkbepemaa

def prevK (l : List Grp) : Nat → Option Str
  | 0 => none
  | i + 1 => l[i]?.map (·.key)
theorem prevK_succ (l : List Grp) (i : Nat) (h : i < l.length) : prevK l (i + 1) = some l[i].key := by simp [prevK, h]
theorem okGs_step (s : Int) (l : List Grp) (i : Nat) (h : i < l.length) : okGsB s (prevK l i) (l.drop i) = (okG s (prevK l i) l[i] && okGsB s (prevK l (i + 1)) (l.drop (i + 1))) := by
  rw [List.drop_eq_getElem_cons h, okGsB, prevK_succ l i h]
theorem check_no {s : Int} {l : List Grp} (h : okGsB s none l = false) : checkM ⟨s, l⟩ = 1 := by
  unfold checkM
  rw [if_neg]
  intro hv
  have := hv.2.2
  simp only [h, Bool.false_eq_true] at this
theorem check_since {s : Int} {l : List Grp} (h : s < 0 ∨ maxT < s) : checkM ⟨s, l⟩ = 1 := by
  unfold checkM
  rw [if_neg]
  intro hv
  have h1 := hv.1
  have h2 := hv.2.1
  simp only at h1 h2
  omega
theorem check_yes {s : Int} {l : List Grp} (h0 : ¬ s < 0) (h1 : ¬ maxT < s) (h : okGsB s none l = true) : checkM ⟨s, l⟩ = 0 := by
  unfold checkM
  rw [if_pos ⟨by simp only; omega, by simp only; omega, h⟩]
theorem okG_nil {s : Int} {p : Option Str} {g : Grp} (h : g.ds = []) : okG s p g = false := by unfold okG; simp [h]
theorem okG_prev {s : Int} {k : Str} {g : Grp} (h : less k g.key = false) : okG s (some k) g = false := by unfold okG; simp [h]
theorem okG_all {s : Int} {p : Option Str} {g : Grp} {x : Dlt} (hx : x ∈ g.ds) (h : ¬ x.row.key = g.key ∨ x.tick < s) : okG s p g = false := by
  have : (g.ds.all fun x => decide (x.row.key = g.key) && decide (s ≤ x.tick)) = false := by
    rw [List.all_eq_false]
    refine ⟨x, hx, ?_⟩
    simp only [Bool.and_eq_true, decide_eq_true_eq]
    rintro ⟨h1, h2⟩
    rcases h with h | h
    · exact h h1
    · omega
  unfold okG
  rw [this]
  simp
theorem okG_cons {s : Int} {p : Option Str} {g : Grp} (h : ¬ g.ds = consM g.ds) : okG s p g = false := by unfold okG; rw [decide_eq_false h]; simp
theorem okG_yes {s : Int} {p : Option Str} {g : Grp} (h1 : g.ds ≠ []) (h2 : ∀ k, p = some k → less k g.key = true) (h3 : ∀ x ∈ g.ds, x.row.key = g.key ∧ s ≤ x.tick) (h4 : g.ds = consM g.ds) : okG s p g = true := by
  unfold okG
  simp only [Bool.and_eq_true, decide_eq_true_eq, List.all_eq_true]
  refine ⟨⟨⟨h1, ?_⟩, h3⟩, h4⟩
  cases p with
  | none => rfl
  | some k => exact h2 k rfl
theorem wrap_pred (j : Nat) (h : j < 4194304) : IntKind.i64.wrap (((j + 1 : Nat) : Int) - 1) = (j : Int) := by
  rw [wrap_id (by omega) (by omega)]; omega

set_option linter.defProp false in
def tbAJa0 := (And.intro (And.intro (And.intro (And.intro (And.intro (And.intro Ty.sz3 (And.intro Ty.by3 Ty.ag3)) (And.intro Ty.zr3 (And.intro Ty.un3 Ty.sz4))) (And.intro (And.intro Ty.by4 (And.intro Ty.ag4 Ty.zr4)) (And.intro Ty.un4 (And.intro Ty.sz9 Ty.by9)))) (And.intro (And.intro (And.intro Ty.ag9 (And.intro Ty.zr9 Ty.un9)) (And.intro Ty.sz22 (And.intro Ty.by22 Ty.ag22))) (And.intro (And.intro Ty.zr22 (And.intro Ty.un22 Ty.sz24)) (And.intro (And.intro Ty.by24 Ty.ag24) (And.intro Ty.zr24 Ty.fl24_0))))) (And.intro (And.intro (And.intro (And.intro Ty.pl24_0 (And.intro Ty.fl24_1 Ty.pl24_1)) (And.intro Ty.sz29 (And.intro Ty.by29 Ty.ag29))) (And.intro (And.intro Ty.zr29 (And.intro Ty.un29 Ty.sz41)) (And.intro Ty.by41 (And.intro Ty.ag41 Ty.zr41)))) (And.intro (And.intro (And.intro Ty.un41 (And.intro Ty.sz53 Ty.by53)) (And.intro Ty.ag53 (And.intro Ty.zr53 Ty.fl53_0))) (And.intro (And.intro Ty.pl53_0 (And.intro Ty.fl53_1 Ty.pl53_1)) (And.intro (And.intro Ty.sz54 Ty.by54) (And.intro Ty.ag54 Ty.zr54)))))) (And.intro (And.intro (And.intro (And.intro (And.intro Ty.un54 (And.intro Ty.sz56 Ty.by56)) (And.intro Ty.ag56 (And.intro Ty.zr56 Ty.fl56_0))) (And.intro (And.intro Ty.pl56_0 (And.intro Ty.fl56_1 Ty.pl56_1)) (And.intro Ty.fl56_2 (And.intro Ty.pl56_2 Ty.fl56_3)))) (And.intro (And.intro (And.intro Ty.pl56_3 (And.intro Ty.fl56_4 Ty.pl56_4)) (And.intro Ty.fl56_5 (And.intro Ty.pl56_5 Ty.fl56_6))) (And.intro (And.intro Ty.pl56_6 (And.intro Ty.sz61 Ty.by61)) (And.intro (And.intro Ty.ag61 Ty.zr61) (And.intro Ty.fl61_0 Ty.pl61_0))))) (And.intro (And.intro (And.intro (And.intro Ty.fl61_1 (And.intro Ty.pl61_1 Ty.fl61_2)) (And.intro Ty.pl61_2 (And.intro Ty.sz65 Ty.by65))) (And.intro (And.intro Ty.ag65 (And.intro Ty.zr65 Ty.fl65_0)) (And.intro (And.intro Ty.pl65_0 Ty.fl65_1) (And.intro Ty.pl65_1 Ty.sz109)))) (And.intro (And.intro (And.intro Ty.by109 (And.intro Ty.ag109 Ty.zr109)) (And.intro Ty.fl109_0 (And.intro Ty.pl109_0 Ty.fl109_1))) (And.intro (And.intro Ty.pl109_1 (And.intro Ty.fl109_2 Ty.pl109_2)) (And.intro (And.intro Ty.eq53 Ty.eq109) (And.intro Ty.cb42 Ty.cb55)))))))
theorem check22_ok (a : Arr) (ha : fitA a) : OkP Try.prog 28 [vArr a] (vint (checkM a)) := by
  obtain ⟨s, l⟩ := a
  obtain ⟨hl, hds⟩ := ha.fitG
  simp only at hl hds
  unfold big at hl
  refine Ok.of_ex Ty.mixed Try.func28 rfl (by simp [Try.ntmps28]) (by kernel_rfl) fun F w0 I0 => ?_
  simp only [↓ruleA0, ↓ruleA1, ↓ruleA2, ruleB0, ruleB1, ruleB2, ruleB3, ruleL, ↓retK, ncall, Todo_eq, packV, eqTB, litB, litV, fitL, fit, veqL, veq, sbin, sun, nilB, cellsV, oneB, okC, vals, fillV, partsE, Int.reduceLE, Int.reduceLT, Int.reduceToNat, Nat.reduceAdd, Nat.reduceEqDiff, Nat.reduceLT, Nat.reduceLeDiff, Nat.reduceMul, Nat.reduceSub, reduceCtorEq, tbAJa0, Try.results28]
  refine fun b1 h1 => ?_; replace h1 := newb h1; try simp only [Nb] at h1
  by_cases c1 : s < 0
  · simp only [↓ruleA0, ↓ruleA1, ↓ruleA2, ruleB0, ruleB1, ruleB2, ruleB3, ruleL, ↓retK, ncall, Todo_eq, packV, eqTB, litB, litV, fitL, fit, veqL, veq, sbin, sun, nilB, cellsV, oneB, okC, vals, fillV, partsE, Int.reduceLE, Int.reduceLT, Int.reduceToNat, Nat.reduceAdd, Nat.reduceEqDiff, Nat.reduceLT, Nat.reduceLeDiff, Nat.reduceMul, Nat.reduceSub, reduceCtorEq, tbAJa0, Try.results28, h1, c1]
    exact ret_done (by rw [check_since (.inl c1)])
  by_cases c2 : maxT < s
  · simp only [↓ruleA0, ↓ruleA1, ↓ruleA2, ruleB0, ruleB1, ruleB2, ruleB3, ruleL, ↓retK, ncall, Todo_eq, packV, eqTB, litB, litV, fitL, fit, veqL, veq, sbin, sun, nilB, cellsV, oneB, okC, vals, fillV, partsE, Int.reduceLE, Int.reduceLT, Int.reduceToNat, Nat.reduceAdd, Nat.reduceEqDiff, Nat.reduceLT, Nat.reduceLeDiff, Nat.reduceMul, Nat.reduceSub, reduceCtorEq, tbAJa0, Try.results28, h1, c1, c2]
    exact ret_done (by rw [check_since (.inr c2)])
  simp only [↓ruleA0, ↓ruleA1, ↓ruleA2, ruleB0, ruleB1, ruleB2, ruleB3, ruleL, ↓retK, ncall, Todo_eq, packV, eqTB, litB, litV, fitL, fit, veqL, veq, sbin, sun, nilB, cellsV, oneB, okC, vals, fillV, partsE, Int.reduceLE, Int.reduceLT, Int.reduceToNat, Nat.reduceAdd, Nat.reduceEqDiff, Nat.reduceLT, Nat.reduceLeDiff, Nat.reduceMul, Nat.reduceSub, reduceCtorEq, tbAJa0, Try.results28, h1, c1, c2]
  refine EX_for Ty.mixed (by kernel_rfl) l.length (fun i S => okGsB s none l = okGsB s (prevK l i) (l.drop i) ∧ S.σ 1 = ptr b1 ∧ S.σ 2 = vint 0 ∧ S.σ 3 = vint i ∧ S.boxes = [(b1, .c (cArr ⟨s, l⟩))] ∧ S.rows = []) ⟨0, rfl, ?_⟩ (fun i S hi ⟨hgo, g1, g2, g3, gb, gr⟩ => ?_) (fun S ⟨hgo, g1, g2, g3, gb, gr⟩ => ?_)
  · simp only [↓ruleA0, ↓ruleA1, ↓ruleA2, ruleB0, ruleB1, ruleB2, ruleB3, ruleL, ↓retK, ncall, Todo_eq, packV, eqTB, litB, litV, fitL, fit, veqL, veq, sbin, sun, nilB, cellsV, oneB, okC, vals, fillV, partsE, Int.reduceLE, Int.reduceLT, Int.reduceToNat, Nat.reduceAdd, Nat.reduceEqDiff, Nat.reduceLT, Nat.reduceLeDiff, Nat.reduceMul, Nat.reduceSub, reduceCtorEq, tbAJa0, Try.results28, h1]
  · rw [okGs_step s l i hi] at hgo
    have hdf := hds _ (List.getElem_mem hi)
    generalize hg : l[i] = g at hgo hdf
    have hlen := hdf.1
    unfold big at hlen
    have bad : okG s (prevK l i) g = false → checkM ⟨s, l⟩ = 1 := fun h => check_no (by rw [hgo, h, Bool.false_and])
    simp only [↓ruleA0, ↓ruleA1, ↓ruleA2, ruleB0, ruleB1, ruleB2, ruleB3, ruleL, ↓retK, ncall, Todo_eq, packV, eqTB, litB, litV, fitL, fit, veqL, veq, sbin, sun, nilB, cellsV, oneB, okC, vals, fillV, partsE, Int.reduceLE, Int.reduceLT, Int.reduceToNat, Nat.reduceAdd, Nat.reduceEqDiff, Nat.reduceLT, Nat.reduceLeDiff, Nat.reduceMul, Nat.reduceSub, reduceCtorEq, tbAJa0, Try.results28, g1, g2, g3, gb, gr, h1, Int.ofNat_lt, hi, List.length_map, getD_map, hg]
    refine fun b4 h4 => ?_; replace h4 := newb h4; try simp only [Nb] at h4
    by_cases e0 : g.ds = []
    · have e0' : ((g.ds.length : Int) = 0) := by rw [e0]; rfl
      simp only [↓ruleA0, ↓ruleA1, ↓ruleA2, ruleB0, ruleB1, ruleB2, ruleB3, ruleL, ↓retK, ncall, Todo_eq, packV, eqTB, litB, litV, fitL, fit, veqL, veq, sbin, sun, nilB, cellsV, oneB, okC, vals, fillV, partsE, Int.reduceLE, Int.reduceLT, Int.reduceToNat, Nat.reduceAdd, Nat.reduceEqDiff, Nat.reduceLT, Nat.reduceLeDiff, Nat.reduceMul, Nat.reduceSub, reduceCtorEq, tbAJa0, Try.results28, g1, g2, g3, gb, gr, h1, h4, e0', List.length_map]
      exact ret_done (by rw [bad (okG_nil e0)])
    have e0' : ¬ ((g.ds.length : Int) = 0) := fun h => e0 (List.eq_nil_of_length_eq_zero (by omega))
    cases i with
    | zero =>
      have hpk : ∀ k, prevK l 0 = some k → less k g.key = true := fun k h => by cases h
      simp only [↓ruleA0, ↓ruleA1, ↓ruleA2, ruleB0, ruleB1, ruleB2, ruleB3, ruleL, ↓retK, ncall, Todo_eq, packV, eqTB, litB, litV, fitL, fit, veqL, veq, sbin, sun, nilB, cellsV, oneB, okC, vals, fillV, partsE, Int.reduceLE, Int.reduceLT, Int.reduceToNat, Nat.reduceAdd, Nat.reduceEqDiff, Nat.reduceLT, Nat.reduceLeDiff, Nat.reduceMul, Nat.reduceSub, reduceCtorEq, tbAJa0, Try.results28, g1, g2, g3, gb, gr, h1, h4, e0', List.length_map, Int.lt_irrefl]
      have hyes : (∀ x ∈ g.ds, x.row.key = g.key ∧ s ≤ x.tick) → g.ds = consM g.ds → okGsB s none l = okGsB s (prevK l (0 + 1)) (l.drop (0 + 1)) := fun h3 h4 => by
        rw [hgo, okG_yes e0 hpk h3 h4, Bool.true_and]
      refine EX_forS Ty.mixed (by kernel_rfl) g.ds.length (fun k S => (∀ k', (h : k' < g.ds.length) → k' < k → g.ds[k'].row.key = g.key ∧ s ≤ g.ds[k'].tick) ∧ S.σ 1 = ptr b1 ∧ S.σ 2 = vint 0 ∧ S.σ 3 = vint ((0 : Nat) : Int) ∧ S.σ 4 = ptr b4 ∧ S.σ 5 = vint k ∧ S.boxes = [(b4, .c (cGrp g)), (b1, .c (cArr ⟨s, l⟩))] ∧ S.rows = []) ⟨_, _, List.Sublist.refl _, List.Sublist.refl _, fun k' h hk' => absurd hk' (Nat.not_lt_zero _), ?_⟩ (fun k S hk ⟨ho, g1, g2, g3, g4, g5, gb, gr⟩ => ?_) (fun S ⟨ho, g1, g2, g3, g4, g5, gb, gr⟩ => ?_)
      · simp only [↓ruleA0, ↓ruleA1, ↓ruleA2, ruleB0, ruleB1, ruleB2, ruleB3, ruleL, ↓retK, ncall, Todo_eq, packV, eqTB, litB, litV, fitL, fit, veqL, veq, sbin, sun, nilB, cellsV, oneB, okC, vals, fillV, partsE, Int.reduceLE, Int.reduceLT, Int.reduceToNat, Nat.reduceAdd, Nat.reduceEqDiff, Nat.reduceLT, Nat.reduceLeDiff, Nat.reduceMul, Nat.reduceSub, reduceCtorEq, tbAJa0, Try.results28, g1, g2, g3, gb, gr, h1, h4]
        try exact ⟨trivial, trivial⟩
      · by_cases k1 : g.ds[k].row.key = g.key
        · by_cases k2 : g.ds[k].tick < s
          · simp only [↓ruleA0, ↓ruleA1, ↓ruleA2, ruleB0, ruleB1, ruleB2, ruleB3, ruleL, ↓retK, ncall, Todo_eq, packV, eqTB, litB, litV, fitL, fit, veqL, veq, sbin, sun, nilB, cellsV, oneB, okC, vals, fillV, partsE, Int.reduceLE, Int.reduceLT, Int.reduceToNat, Nat.reduceAdd, Nat.reduceEqDiff, Nat.reduceLT, Nat.reduceLeDiff, Nat.reduceMul, Nat.reduceSub, reduceCtorEq, tbAJa0, Try.results28, g1, g2, g3, g4, g5, gb, gr, h1, h4, Int.ofNat_lt, hk, List.length_map, getD_map, k1, k2]
            exact ret_done (by rw [bad (okG_all (List.getElem_mem hk) (.inr k2))])
          · simp only [↓ruleA0, ↓ruleA1, ↓ruleA2, ruleB0, ruleB1, ruleB2, ruleB3, ruleL, ↓retK, ncall, Todo_eq, packV, eqTB, litB, litV, fitL, fit, veqL, veq, sbin, sun, nilB, cellsV, oneB, okC, vals, fillV, partsE, Int.reduceLE, Int.reduceLT, Int.reduceToNat, Nat.reduceAdd, Nat.reduceEqDiff, Nat.reduceLT, Nat.reduceLeDiff, Nat.reduceMul, Nat.reduceSub, reduceCtorEq, tbAJa0, Try.results28, g1, g2, g3, g4, g5, gb, gr, h1, h4, Int.ofNat_lt, hk, List.length_map, getD_map, k1, k2, wrap_succ hk (Nat.le_trans hlen (by decide))]
            refine ⟨_, _, List.Sublist.refl _, List.Sublist.refl _, fun k' h hk' => ?_, ?_⟩
            · by_cases e : k' = k
              · subst e; exact ⟨k1, by omega⟩
              · exact ho k' h (by omega)
            · simp only [↓ruleA0, ↓ruleA1, ↓ruleA2, ruleB0, ruleB1, ruleB2, ruleB3, ruleL, ↓retK, ncall, Todo_eq, packV, eqTB, litB, litV, fitL, fit, veqL, veq, sbin, sun, nilB, cellsV, oneB, okC, vals, fillV, partsE, Int.reduceLE, Int.reduceLT, Int.reduceToNat, Nat.reduceAdd, Nat.reduceEqDiff, Nat.reduceLT, Nat.reduceLeDiff, Nat.reduceMul, Nat.reduceSub, reduceCtorEq, tbAJa0, Try.results28, g1, g2, g3, g4, g5, gb, gr, h1, h4, wrap_succ hk (Nat.le_trans hlen (by decide))]
              try exact ⟨trivial, trivial⟩
        · simp only [↓ruleA0, ↓ruleA1, ↓ruleA2, ruleB0, ruleB1, ruleB2, ruleB3, ruleL, ↓retK, ncall, Todo_eq, packV, eqTB, litB, litV, fitL, fit, veqL, veq, sbin, sun, nilB, cellsV, oneB, okC, vals, fillV, partsE, Int.reduceLE, Int.reduceLT, Int.reduceToNat, Nat.reduceAdd, Nat.reduceEqDiff, Nat.reduceLT, Nat.reduceLeDiff, Nat.reduceMul, Nat.reduceSub, reduceCtorEq, tbAJa0, Try.results28, g1, g2, g3, g4, g5, gb, gr, h1, h4, Int.ofNat_lt, hk, List.length_map, getD_map, k1]
          exact ret_done (by rw [bad (okG_all (List.getElem_mem hk) (.inl k1))])
      · have hall : ∀ x ∈ g.ds, x.row.key = g.key ∧ s ≤ x.tick := fun x hx => by
          obtain ⟨k', h, rfl⟩ := List.getElem_of_mem hx
          exact ho k' h h
        simp only [↓ruleA0, ↓ruleA1, ↓ruleA2, ruleB0, ruleB1, ruleB2, ruleB3, ruleL, ↓retK, ncall, Todo_eq, packV, eqTB, litB, litV, fitL, fit, veqL, veq, sbin, sun, nilB, cellsV, oneB, okC, vals, fillV, partsE, Int.reduceLE, Int.reduceLT, Int.reduceToNat, Nat.reduceAdd, Nat.reduceEqDiff, Nat.reduceLT, Nat.reduceLeDiff, Nat.reduceMul, Nat.reduceSub, reduceCtorEq, tbAJa0, Try.results28, g1, g2, g3, g4, g5, gb, gr, h1, h4, Int.ofNat_lt, Nat.lt_irrefl, List.length_map]
        refine CallV_of _ (cons20_ok g.ds hdf.1 hdf.okF).v ?_
        simp only [↓ruleA0, ↓ruleA1, ↓ruleA2, ruleB0, ruleB1, ruleB2, ruleB3, ruleL, ↓retK, ncall, Todo_eq, packV, eqTB, litB, litV, fitL, fit, veqL, veq, sbin, sun, nilB, cellsV, oneB, okC, vals, fillV, partsE, Int.reduceLE, Int.reduceLT, Int.reduceToNat, Nat.reduceAdd, Nat.reduceEqDiff, Nat.reduceLT, Nat.reduceLeDiff, Nat.reduceMul, Nat.reduceSub, reduceCtorEq, tbAJa0, Try.results28, g1, g2, g3, g4, g5, gb, gr, h1, h4, List.length_map]
        refine CallV_of _ (sameDeltas_ok g.ds (consM g.ds) (Nat.le_trans hlen (by decide)) hdf.okF).v ?_
        by_cases e4 : g.ds = consM g.ds
        · have e4' := decide_eq_true e4
          rw [e4']
          simp only [↓ruleA0, ↓ruleA1, ↓ruleA2, ruleB0, ruleB1, ruleB2, ruleB3, ruleL, ↓retK, ncall, Todo_eq, packV, eqTB, litB, litV, fitL, fit, veqL, veq, sbin, sun, nilB, cellsV, oneB, okC, vals, fillV, partsE, Int.reduceLE, Int.reduceLT, Int.reduceToNat, Nat.reduceAdd, Nat.reduceEqDiff, Nat.reduceLT, Nat.reduceLeDiff, Nat.reduceMul, Nat.reduceSub, reduceCtorEq, tbAJa0, Try.results28, g1, g2, g3, g4, g5, gb, gr, h1, h4, wrap_succ hi (Nat.le_trans hl (by decide))]
          first | exact ⟨1, hyes hall e4, rfl, rfl⟩ | exact ⟨1, hyes hall e4, rfl⟩
        · have e4' := decide_eq_false e4
          rw [e4']
          simp only [↓ruleA0, ↓ruleA1, ↓ruleA2, ruleB0, ruleB1, ruleB2, ruleB3, ruleL, ↓retK, ncall, Todo_eq, packV, eqTB, litB, litV, fitL, fit, veqL, veq, sbin, sun, nilB, cellsV, oneB, okC, vals, fillV, partsE, Int.reduceLE, Int.reduceLT, Int.reduceToNat, Nat.reduceAdd, Nat.reduceEqDiff, Nat.reduceLT, Nat.reduceLeDiff, Nat.reduceMul, Nat.reduceSub, reduceCtorEq, tbAJa0, Try.results28, g1, g2, g3, g4, g5, gb, gr, h1, h4]
          exact ret_done (by rw [bad (okG_cons e4)])
    | succ j =>
      have hj : j < l.length := by omega
      have w1 := wrap_pred j (by omega)
      have hprev : prevK l (j + 1) = some l[j].key := prevK_succ l j hj
      by_cases hp : less l[j].key g.key = true
      · have hpk : ∀ k, prevK l (j + 1) = some k → less k g.key = true := fun k h => by rw [hprev] at h; cases h; exact hp
        have p1 : Op.bytesLess g.key.data.toList l[j].key.data.toList = false := less_asymm hp
        have p2 : ¬ g.key = l[j].key := fun e => less_ne hp e.symm
        simp only [↓ruleA0, ↓ruleA1, ↓ruleA2, ruleB0, ruleB1, ruleB2, ruleB3, ruleL, ↓retK, ncall, Todo_eq, packV, eqTB, litB, litV, fitL, fit, veqL, veq, sbin, sun, nilB, cellsV, oneB, okC, vals, fillV, partsE, Int.reduceLE, Int.reduceLT, Int.reduceToNat, Nat.reduceAdd, Nat.reduceEqDiff, Nat.reduceLT, Nat.reduceLeDiff, Nat.reduceMul, Nat.reduceSub, reduceCtorEq, tbAJa0, Try.results28, g1, g2, g3, gb, gr, h1, h4, e0', List.length_map, w1, Int.ofNat_lt, hj, getD_map, p1, p2]
        have hyes : (∀ x ∈ g.ds, x.row.key = g.key ∧ s ≤ x.tick) → g.ds = consM g.ds → okGsB s none l = okGsB s (prevK l ((j + 1) + 1)) (l.drop ((j + 1) + 1)) := fun h3 h4 => by
          rw [hgo, okG_yes e0 hpk h3 h4, Bool.true_and]
        refine EX_forS Ty.mixed (by kernel_rfl) g.ds.length (fun k S => (∀ k', (h : k' < g.ds.length) → k' < k → g.ds[k'].row.key = g.key ∧ s ≤ g.ds[k'].tick) ∧ S.σ 1 = ptr b1 ∧ S.σ 2 = vint 0 ∧ S.σ 3 = vint ((j + 1 : Nat) : Int) ∧ S.σ 4 = ptr b4 ∧ S.σ 5 = vint k ∧ S.boxes = [(b4, .c (cGrp g)), (b1, .c (cArr ⟨s, l⟩))] ∧ S.rows = []) ⟨_, _, List.Sublist.refl _, List.Sublist.refl _, fun k' h hk' => absurd hk' (Nat.not_lt_zero _), ?_⟩ (fun k S hk ⟨ho, g1, g2, g3, g4, g5, gb, gr⟩ => ?_) (fun S ⟨ho, g1, g2, g3, g4, g5, gb, gr⟩ => ?_)
        · simp only [↓ruleA0, ↓ruleA1, ↓ruleA2, ruleB0, ruleB1, ruleB2, ruleB3, ruleL, ↓retK, ncall, Todo_eq, packV, eqTB, litB, litV, fitL, fit, veqL, veq, sbin, sun, nilB, cellsV, oneB, okC, vals, fillV, partsE, Int.reduceLE, Int.reduceLT, Int.reduceToNat, Nat.reduceAdd, Nat.reduceEqDiff, Nat.reduceLT, Nat.reduceLeDiff, Nat.reduceMul, Nat.reduceSub, reduceCtorEq, tbAJa0, Try.results28, g1, g2, g3, gb, gr, h1, h4]
          try exact ⟨trivial, trivial⟩
        · by_cases k1 : g.ds[k].row.key = g.key
          · by_cases k2 : g.ds[k].tick < s
            · simp only [↓ruleA0, ↓ruleA1, ↓ruleA2, ruleB0, ruleB1, ruleB2, ruleB3, ruleL, ↓retK, ncall, Todo_eq, packV, eqTB, litB, litV, fitL, fit, veqL, veq, sbin, sun, nilB, cellsV, oneB, okC, vals, fillV, partsE, Int.reduceLE, Int.reduceLT, Int.reduceToNat, Nat.reduceAdd, Nat.reduceEqDiff, Nat.reduceLT, Nat.reduceLeDiff, Nat.reduceMul, Nat.reduceSub, reduceCtorEq, tbAJa0, Try.results28, g1, g2, g3, g4, g5, gb, gr, h1, h4, Int.ofNat_lt, hk, List.length_map, getD_map, k1, k2]
              exact ret_done (by rw [bad (okG_all (List.getElem_mem hk) (.inr k2))])
            · simp only [↓ruleA0, ↓ruleA1, ↓ruleA2, ruleB0, ruleB1, ruleB2, ruleB3, ruleL, ↓retK, ncall, Todo_eq, packV, eqTB, litB, litV, fitL, fit, veqL, veq, sbin, sun, nilB, cellsV, oneB, okC, vals, fillV, partsE, Int.reduceLE, Int.reduceLT, Int.reduceToNat, Nat.reduceAdd, Nat.reduceEqDiff, Nat.reduceLT, Nat.reduceLeDiff, Nat.reduceMul, Nat.reduceSub, reduceCtorEq, tbAJa0, Try.results28, g1, g2, g3, g4, g5, gb, gr, h1, h4, Int.ofNat_lt, hk, List.length_map, getD_map, k1, k2, wrap_succ hk (Nat.le_trans hlen (by decide))]
              refine ⟨_, _, List.Sublist.refl _, List.Sublist.refl _, fun k' h hk' => ?_, ?_⟩
              · by_cases e : k' = k
                · subst e; exact ⟨k1, by omega⟩
                · exact ho k' h (by omega)
              · simp only [↓ruleA0, ↓ruleA1, ↓ruleA2, ruleB0, ruleB1, ruleB2, ruleB3, ruleL, ↓retK, ncall, Todo_eq, packV, eqTB, litB, litV, fitL, fit, veqL, veq, sbin, sun, nilB, cellsV, oneB, okC, vals, fillV, partsE, Int.reduceLE, Int.reduceLT, Int.reduceToNat, Nat.reduceAdd, Nat.reduceEqDiff, Nat.reduceLT, Nat.reduceLeDiff, Nat.reduceMul, Nat.reduceSub, reduceCtorEq, tbAJa0, Try.results28, g1, g2, g3, g4, g5, gb, gr, h1, h4, wrap_succ hk (Nat.le_trans hlen (by decide))]
                try exact ⟨trivial, trivial⟩
          · simp only [↓ruleA0, ↓ruleA1, ↓ruleA2, ruleB0, ruleB1, ruleB2, ruleB3, ruleL, ↓retK, ncall, Todo_eq, packV, eqTB, litB, litV, fitL, fit, veqL, veq, sbin, sun, nilB, cellsV, oneB, okC, vals, fillV, partsE, Int.reduceLE, Int.reduceLT, Int.reduceToNat, Nat.reduceAdd, Nat.reduceEqDiff, Nat.reduceLT, Nat.reduceLeDiff, Nat.reduceMul, Nat.reduceSub, reduceCtorEq, tbAJa0, Try.results28, g1, g2, g3, g4, g5, gb, gr, h1, h4, Int.ofNat_lt, hk, List.length_map, getD_map, k1]
            exact ret_done (by rw [bad (okG_all (List.getElem_mem hk) (.inl k1))])
        · have hall : ∀ x ∈ g.ds, x.row.key = g.key ∧ s ≤ x.tick := fun x hx => by
            obtain ⟨k', h, rfl⟩ := List.getElem_of_mem hx
            exact ho k' h h
          simp only [↓ruleA0, ↓ruleA1, ↓ruleA2, ruleB0, ruleB1, ruleB2, ruleB3, ruleL, ↓retK, ncall, Todo_eq, packV, eqTB, litB, litV, fitL, fit, veqL, veq, sbin, sun, nilB, cellsV, oneB, okC, vals, fillV, partsE, Int.reduceLE, Int.reduceLT, Int.reduceToNat, Nat.reduceAdd, Nat.reduceEqDiff, Nat.reduceLT, Nat.reduceLeDiff, Nat.reduceMul, Nat.reduceSub, reduceCtorEq, tbAJa0, Try.results28, g1, g2, g3, g4, g5, gb, gr, h1, h4, Int.ofNat_lt, Nat.lt_irrefl, List.length_map]
          refine CallV_of _ (cons20_ok g.ds hdf.1 hdf.okF).v ?_
          simp only [↓ruleA0, ↓ruleA1, ↓ruleA2, ruleB0, ruleB1, ruleB2, ruleB3, ruleL, ↓retK, ncall, Todo_eq, packV, eqTB, litB, litV, fitL, fit, veqL, veq, sbin, sun, nilB, cellsV, oneB, okC, vals, fillV, partsE, Int.reduceLE, Int.reduceLT, Int.reduceToNat, Nat.reduceAdd, Nat.reduceEqDiff, Nat.reduceLT, Nat.reduceLeDiff, Nat.reduceMul, Nat.reduceSub, reduceCtorEq, tbAJa0, Try.results28, g1, g2, g3, g4, g5, gb, gr, h1, h4, List.length_map]
          refine CallV_of _ (sameDeltas_ok g.ds (consM g.ds) (Nat.le_trans hlen (by decide)) hdf.okF).v ?_
          by_cases e4 : g.ds = consM g.ds
          · have e4' := decide_eq_true e4
            rw [e4']
            simp only [↓ruleA0, ↓ruleA1, ↓ruleA2, ruleB0, ruleB1, ruleB2, ruleB3, ruleL, ↓retK, ncall, Todo_eq, packV, eqTB, litB, litV, fitL, fit, veqL, veq, sbin, sun, nilB, cellsV, oneB, okC, vals, fillV, partsE, Int.reduceLE, Int.reduceLT, Int.reduceToNat, Nat.reduceAdd, Nat.reduceEqDiff, Nat.reduceLT, Nat.reduceLeDiff, Nat.reduceMul, Nat.reduceSub, reduceCtorEq, tbAJa0, Try.results28, g1, g2, g3, g4, g5, gb, gr, h1, h4, wrap_succ hi (Nat.le_trans hl (by decide))]
            first | exact ⟨1, hyes hall e4, rfl, rfl⟩ | exact ⟨1, hyes hall e4, rfl⟩
          · have e4' := decide_eq_false e4
            rw [e4']
            simp only [↓ruleA0, ↓ruleA1, ↓ruleA2, ruleB0, ruleB1, ruleB2, ruleB3, ruleL, ↓retK, ncall, Todo_eq, packV, eqTB, litB, litV, fitL, fit, veqL, veq, sbin, sun, nilB, cellsV, oneB, okC, vals, fillV, partsE, Int.reduceLE, Int.reduceLT, Int.reduceToNat, Nat.reduceAdd, Nat.reduceEqDiff, Nat.reduceLT, Nat.reduceLeDiff, Nat.reduceMul, Nat.reduceSub, reduceCtorEq, tbAJa0, Try.results28, g1, g2, g3, g4, g5, gb, gr, h1, h4]
            exact ret_done (by rw [bad (okG_cons e4)])
      · have hp' : less l[j].key g.key = false := by simpa using hp
        have hb := bad (by rw [hprev]; exact okG_prev hp')
        by_cases p2 : g.key = l[j].key
        · have p1 : Op.bytesLess l[j].key.data.toList l[j].key.data.toList = false := bytesLess_irrefl _
          simp only [↓ruleA0, ↓ruleA1, ↓ruleA2, ruleB0, ruleB1, ruleB2, ruleB3, ruleL, ↓retK, ncall, Todo_eq, packV, eqTB, litB, litV, fitL, fit, veqL, veq, sbin, sun, nilB, cellsV, oneB, okC, vals, fillV, partsE, Int.reduceLE, Int.reduceLT, Int.reduceToNat, Nat.reduceAdd, Nat.reduceEqDiff, Nat.reduceLT, Nat.reduceLeDiff, Nat.reduceMul, Nat.reduceSub, reduceCtorEq, tbAJa0, Try.results28, g1, g2, g3, gb, gr, h1, h4, e0', List.length_map, w1, Int.ofNat_lt, hj, getD_map, p1, p2]
          exact ret_done (by rw [hb])
        · have p1 : Op.bytesLess g.key.data.toList l[j].key.data.toList = true := less_total hp' fun e => p2 e.symm
          simp only [↓ruleA0, ↓ruleA1, ↓ruleA2, ruleB0, ruleB1, ruleB2, ruleB3, ruleL, ↓retK, ncall, Todo_eq, packV, eqTB, litB, litV, fitL, fit, veqL, veq, sbin, sun, nilB, cellsV, oneB, okC, vals, fillV, partsE, Int.reduceLE, Int.reduceLT, Int.reduceToNat, Nat.reduceAdd, Nat.reduceEqDiff, Nat.reduceLT, Nat.reduceLeDiff, Nat.reduceMul, Nat.reduceSub, reduceCtorEq, tbAJa0, Try.results28, g1, g2, g3, gb, gr, h1, h4, e0', List.length_map, w1, Int.ofNat_lt, hj, getD_map, p1, p2]
          exact ret_done (by rw [hb])
  · simp only [↓ruleA0, ↓ruleA1, ↓ruleA2, ruleB0, ruleB1, ruleB2, ruleB3, ruleL, ↓retK, ncall, Todo_eq, packV, eqTB, litB, litV, fitL, fit, veqL, veq, sbin, sun, nilB, cellsV, oneB, okC, vals, fillV, partsE, Int.reduceLE, Int.reduceLT, Int.reduceToNat, Nat.reduceAdd, Nat.reduceEqDiff, Nat.reduceLT, Nat.reduceLeDiff, Nat.reduceMul, Nat.reduceSub, reduceCtorEq, tbAJa0, Try.results28, g1, g2, g3, gb, gr, h1, Int.ofNat_lt, Nat.lt_irrefl, List.length_map]
    have : okGsB s none l = true := by rw [hgo, List.drop_of_length_le (Nat.le_refl _)]; rfl
    exact ret_done (by rw [check_yes c1 c2 this])

/-! ### few, right -/
def fewM (a : Arr) (d : List Dlt) : Bool := decide (d.length + a.groups.length + (allD a.groups).length ≤ 200)
def rightM (a : Arr) (d : List Dlt) : Bool := fewM a d && decide (checkM a = 0)
set_option linter.defProp false in
def tbAJa1 := (And.intro (And.intro (And.intro (And.intro (And.intro (And.intro Ty.sz3 Ty.by3) (And.intro Ty.ag3 (And.intro Ty.zr3 Ty.un3))) (And.intro (And.intro Ty.sz4 (And.intro Ty.by4 Ty.ag4)) (And.intro Ty.zr4 (And.intro Ty.un4 Ty.sz9)))) (And.intro (And.intro (And.intro Ty.by9 (And.intro Ty.ag9 Ty.zr9)) (And.intro Ty.un9 (And.intro Ty.sz22 Ty.by22))) (And.intro (And.intro Ty.ag22 (And.intro Ty.zr22 Ty.un22)) (And.intro Ty.sz24 (And.intro Ty.by24 Ty.ag24))))) (And.intro (And.intro (And.intro (And.intro Ty.zr24 (And.intro Ty.fl24_0 Ty.pl24_0)) (And.intro Ty.fl24_1 (And.intro Ty.pl24_1 Ty.sz41))) (And.intro (And.intro Ty.by41 (And.intro Ty.ag41 Ty.zr41)) (And.intro Ty.un41 (And.intro Ty.sz53 Ty.by53)))) (And.intro (And.intro (And.intro Ty.ag53 (And.intro Ty.zr53 Ty.fl53_0)) (And.intro Ty.pl53_0 (And.intro Ty.fl53_1 Ty.pl53_1))) (And.intro (And.intro Ty.sz54 (And.intro Ty.by54 Ty.ag54)) (And.intro Ty.zr54 (And.intro Ty.un54 Ty.sz56)))))) (And.intro (And.intro (And.intro (And.intro (And.intro Ty.by56 Ty.ag56) (And.intro Ty.zr56 (And.intro Ty.fl56_0 Ty.pl56_0))) (And.intro (And.intro Ty.fl56_1 (And.intro Ty.pl56_1 Ty.fl56_2)) (And.intro Ty.pl56_2 (And.intro Ty.fl56_3 Ty.pl56_3)))) (And.intro (And.intro (And.intro Ty.fl56_4 (And.intro Ty.pl56_4 Ty.fl56_5)) (And.intro Ty.pl56_5 (And.intro Ty.fl56_6 Ty.pl56_6))) (And.intro (And.intro Ty.sz61 (And.intro Ty.by61 Ty.ag61)) (And.intro Ty.zr61 (And.intro Ty.fl61_0 Ty.pl61_0))))) (And.intro (And.intro (And.intro (And.intro Ty.fl61_1 (And.intro Ty.pl61_1 Ty.fl61_2)) (And.intro Ty.pl61_2 (And.intro Ty.sz65 Ty.by65))) (And.intro (And.intro Ty.ag65 (And.intro Ty.zr65 Ty.fl65_0)) (And.intro Ty.pl65_0 (And.intro Ty.fl65_1 Ty.pl65_1)))) (And.intro (And.intro (And.intro Ty.sz109 (And.intro Ty.by109 Ty.ag109)) (And.intro Ty.zr109 (And.intro Ty.fl109_0 Ty.pl109_0))) (And.intro (And.intro Ty.fl109_1 (And.intro Ty.pl109_1 Ty.fl109_2)) (And.intro Ty.pl109_2 (And.intro Ty.eq53 Ty.eq109)))))))
theorem few_ok (a : Arr) (d : List Dlt) (ha : fitA a) (hd : d.length ≤ big) : OkP Try.prog 26 [vArr a, vDlts d] (vbool (fewM a d)) := by
  obtain ⟨s, l⟩ := a
  have hl : l.length ≤ 4194304 := ha.1
  have hal : (allD l).length ≤ 4194304 := ha.2.1
  unfold big at hd
  refine Ok.of_ex Ty.mixed Try.func26 rfl (by simp [Try.ntmps26]) (by kernel_rfl) fun F w0 I0 => ?_
  simp only [↓ruleA0, ↓ruleA1, ↓ruleA2, ruleB0, ruleB1, ruleB2, ruleB3, ruleL, ↓retK, ncall, Todo_eq, packV, eqTB, litB, litV, fitL, fit, veqL, veq, sbin, sun, nilB, cellsV, oneB, okC, vals, fillV, partsE, Int.reduceLE, Int.reduceLT, Int.reduceToNat, Nat.reduceAdd, Nat.reduceEqDiff, Nat.reduceLT, Nat.reduceLeDiff, Nat.reduceMul, Nat.reduceSub, reduceCtorEq, tbAJa1, Try.results26]
  refine fun b2 h2 => ?_; replace h2 := newb h2; try simp only [Nb] at h2
  have w0 : IntKind.i64.wrap ((d.length : Int) + (l.length : Int)) = ((d.length + l.length + (allD (l.take 0)).length : Nat) : Int) := by
    rw [wrap_id (by omega) (by omega)]; simp [allD]
  simp only [↓ruleA0, ↓ruleA1, ↓ruleA2, ruleB0, ruleB1, ruleB2, ruleB3, ruleL, ↓retK, ncall, Todo_eq, packV, eqTB, litB, litV, fitL, fit, veqL, veq, sbin, sun, nilB, cellsV, oneB, okC, vals, fillV, partsE, Int.reduceLE, Int.reduceLT, Int.reduceToNat, Nat.reduceAdd, Nat.reduceEqDiff, Nat.reduceLT, Nat.reduceLeDiff, Nat.reduceMul, Nat.reduceSub, reduceCtorEq, tbAJa1, Try.results26, h2, List.length_map, w0]
  refine EX_for Ty.mixed (by kernel_rfl) l.length (fun i S => S.σ 5 = vint ((d.length + l.length + (allD (l.take i)).length : Nat) : Int) ∧ S.σ 2 = ptr b2 ∧ S.σ 6 = vint i ∧ S.boxes = [(b2, .c (cArr ⟨s, l⟩))] ∧ S.rows = []) ⟨0, ?_⟩ (fun i S hi ⟨g5, g2, g6, gb, gr⟩ => ?_) (fun S ⟨g5, g2, g6, gb, gr⟩ => ?_)
  · simp only [↓ruleA0, ↓ruleA1, ↓ruleA2, ruleB0, ruleB1, ruleB2, ruleB3, ruleL, ↓retK, ncall, Todo_eq, packV, eqTB, litB, litV, fitL, fit, veqL, veq, sbin, sun, nilB, cellsV, oneB, okC, vals, fillV, partsE, Int.reduceLE, Int.reduceLT, Int.reduceToNat, Nat.reduceAdd, Nat.reduceEqDiff, Nat.reduceLT, Nat.reduceLeDiff, Nat.reduceMul, Nat.reduceSub, reduceCtorEq, tbAJa1, Try.results26, h2]
  · have hai := allD_len l i hi
    have w1 : IntKind.i64.wrap (((d.length + l.length + (allD (l.take i)).length : Nat) : Int) + (l[i].ds.length : Int)) = ((d.length + l.length + (allD (l.take (i + 1))).length : Nat) : Int) := by
      rw [allD_take l i hi, List.length_append, wrap_id (by omega) (by omega)]; omega
    simp only [↓ruleA0, ↓ruleA1, ↓ruleA2, ruleB0, ruleB1, ruleB2, ruleB3, ruleL, ↓retK, ncall, Todo_eq, packV, eqTB, litB, litV, fitL, fit, veqL, veq, sbin, sun, nilB, cellsV, oneB, okC, vals, fillV, partsE, Int.reduceLE, Int.reduceLT, Int.reduceToNat, Nat.reduceAdd, Nat.reduceEqDiff, Nat.reduceLT, Nat.reduceLeDiff, Nat.reduceMul, Nat.reduceSub, reduceCtorEq, tbAJa1, Try.results26, g5, g2, g6, gb, gr, h2, Int.ofNat_lt, hi, List.length_map, getD_map, w1, wrap_succ hi (Nat.le_trans hl (by decide))]
    exact ⟨0, rfl⟩
  · rw [List.take_of_length_le (Nat.le_refl _)] at g5
    simp only [↓ruleA0, ↓ruleA1, ↓ruleA2, ruleB0, ruleB1, ruleB2, ruleB3, ruleL, ↓retK, ncall, Todo_eq, packV, eqTB, litB, litV, fitL, fit, veqL, veq, sbin, sun, nilB, cellsV, oneB, okC, vals, fillV, partsE, Int.reduceLE, Int.reduceLT, Int.reduceToNat, Nat.reduceAdd, Nat.reduceEqDiff, Nat.reduceLT, Nat.reduceLeDiff, Nat.reduceMul, Nat.reduceSub, reduceCtorEq, tbAJa1, Try.results26, g5, g2, g6, gb, gr, h2, Int.ofNat_lt, Nat.lt_irrefl, List.length_map]
    refine ret_done ?_
    unfold fewM
    congr 2
    exact decide_eq_decide.2 (by simp only; omega)
set_option linter.defProp false in
def tbAJa2 := (And.intro (And.intro (And.intro (And.intro (And.intro (And.intro Ty.sz3 (And.intro Ty.by3 Ty.ag3)) (And.intro Ty.zr3 (And.intro Ty.un3 Ty.sz4))) (And.intro (And.intro Ty.by4 (And.intro Ty.ag4 Ty.zr4)) (And.intro Ty.un4 (And.intro Ty.sz9 Ty.by9)))) (And.intro (And.intro (And.intro Ty.ag9 (And.intro Ty.zr9 Ty.un9)) (And.intro Ty.sz22 (And.intro Ty.by22 Ty.ag22))) (And.intro (And.intro Ty.zr22 (And.intro Ty.un22 Ty.sz24)) (And.intro (And.intro Ty.by24 Ty.ag24) (And.intro Ty.zr24 Ty.fl24_0))))) (And.intro (And.intro (And.intro (And.intro Ty.pl24_0 (And.intro Ty.fl24_1 Ty.pl24_1)) (And.intro Ty.sz29 (And.intro Ty.by29 Ty.ag29))) (And.intro (And.intro Ty.zr29 (And.intro Ty.un29 Ty.sz41)) (And.intro Ty.by41 (And.intro Ty.ag41 Ty.zr41)))) (And.intro (And.intro (And.intro Ty.un41 (And.intro Ty.sz53 Ty.by53)) (And.intro Ty.ag53 (And.intro Ty.zr53 Ty.fl53_0))) (And.intro (And.intro Ty.pl53_0 (And.intro Ty.fl53_1 Ty.pl53_1)) (And.intro (And.intro Ty.sz54 Ty.by54) (And.intro Ty.ag54 Ty.zr54)))))) (And.intro (And.intro (And.intro (And.intro (And.intro Ty.un54 (And.intro Ty.sz56 Ty.by56)) (And.intro Ty.ag56 (And.intro Ty.zr56 Ty.fl56_0))) (And.intro (And.intro Ty.pl56_0 (And.intro Ty.fl56_1 Ty.pl56_1)) (And.intro Ty.fl56_2 (And.intro Ty.pl56_2 Ty.fl56_3)))) (And.intro (And.intro (And.intro Ty.pl56_3 (And.intro Ty.fl56_4 Ty.pl56_4)) (And.intro Ty.fl56_5 (And.intro Ty.pl56_5 Ty.fl56_6))) (And.intro (And.intro Ty.pl56_6 (And.intro Ty.sz61 Ty.by61)) (And.intro (And.intro Ty.ag61 Ty.zr61) (And.intro Ty.fl61_0 Ty.pl61_0))))) (And.intro (And.intro (And.intro (And.intro Ty.fl61_1 (And.intro Ty.pl61_1 Ty.fl61_2)) (And.intro Ty.pl61_2 (And.intro Ty.sz65 Ty.by65))) (And.intro (And.intro Ty.ag65 (And.intro Ty.zr65 Ty.fl65_0)) (And.intro (And.intro Ty.pl65_0 Ty.fl65_1) (And.intro Ty.pl65_1 Ty.sz109)))) (And.intro (And.intro (And.intro Ty.by109 (And.intro Ty.ag109 Ty.zr109)) (And.intro Ty.fl109_0 (And.intro Ty.pl109_0 Ty.fl109_1))) (And.intro (And.intro Ty.pl109_1 (And.intro Ty.fl109_2 Ty.pl109_2)) (And.intro (And.intro Ty.eq53 Ty.eq109) (And.intro Ty.cb26 Ty.cb28)))))))
theorem right_ok (a : Arr) (d : List Dlt) (ha : fitA a) (hd : d.length ≤ big) : OkP Try.prog 11 [vArr a, vDlts d] (vbool (rightM a d)) := by
  refine Ok.of_ex Ty.mixed Try.func11 rfl (by simp [Try.ntmps11]) (by kernel_rfl) fun F w0 I0 => ?_
  simp only [↓ruleA0, ↓ruleA1, ↓ruleA2, ruleB0, ruleB1, ruleB2, ruleB3, ruleL, ↓retK, ncall, Todo_eq, packV, eqTB, litB, litV, fitL, fit, veqL, veq, sbin, sun, nilB, cellsV, oneB, okC, vals, fillV, partsE, Int.reduceLE, Int.reduceLT, Int.reduceToNat, Nat.reduceAdd, Nat.reduceEqDiff, Nat.reduceLT, Nat.reduceLeDiff, Nat.reduceMul, Nat.reduceSub, reduceCtorEq, tbAJa2, Try.results11]
  refine fun b2 h2 => ?_; replace h2 := newb h2; try simp only [Nb] at h2
  simp only [↓ruleA0, ↓ruleA1, ↓ruleA2, ruleB0, ruleB1, ruleB2, ruleB3, ruleL, ↓retK, ncall, Todo_eq, packV, eqTB, litB, litV, fitL, fit, veqL, veq, sbin, sun, nilB, cellsV, oneB, okC, vals, fillV, partsE, Int.reduceLE, Int.reduceLT, Int.reduceToNat, Nat.reduceAdd, Nat.reduceEqDiff, Nat.reduceLT, Nat.reduceLeDiff, Nat.reduceMul, Nat.reduceSub, reduceCtorEq, tbAJa2, Try.results11, h2]
  refine OkF_of _ (few_ok a d ha hd) ?_
  cases hf : fewM a d
  · simp only [↓ruleA0, ↓ruleA1, ↓ruleA2, ruleB0, ruleB1, ruleB2, ruleB3, ruleL, ↓retK, ncall, Todo_eq, packV, eqTB, litB, litV, fitL, fit, veqL, veq, sbin, sun, nilB, cellsV, oneB, okC, vals, fillV, partsE, Int.reduceLE, Int.reduceLT, Int.reduceToNat, Nat.reduceAdd, Nat.reduceEqDiff, Nat.reduceLT, Nat.reduceLeDiff, Nat.reduceMul, Nat.reduceSub, reduceCtorEq, tbAJa2, Try.results11, h2, hf]
    exact ret_done (by simp [rightM, hf])
  · simp only [↓ruleA0, ↓ruleA1, ↓ruleA2, ruleB0, ruleB1, ruleB2, ruleB3, ruleL, ↓retK, ncall, Todo_eq, packV, eqTB, litB, litV, fitL, fit, veqL, veq, sbin, sun, nilB, cellsV, oneB, okC, vals, fillV, partsE, Int.reduceLE, Int.reduceLT, Int.reduceToNat, Nat.reduceAdd, Nat.reduceEqDiff, Nat.reduceLT, Nat.reduceLeDiff, Nat.reduceMul, Nat.reduceSub, reduceCtorEq, tbAJa2, Try.results11, h2, hf]
    refine OkF_of _ (check22_ok a ha) ?_
    simp only [↓ruleA0, ↓ruleA1, ↓ruleA2, ruleB0, ruleB1, ruleB2, ruleB3, ruleL, ↓retK, ncall, Todo_eq, packV, eqTB, litB, litV, fitL, fit, veqL, veq, sbin, sun, nilB, cellsV, oneB, okC, vals, fillV, partsE, Int.reduceLE, Int.reduceLT, Int.reduceToNat, Nat.reduceAdd, Nat.reduceEqDiff, Nat.reduceLT, Nat.reduceLeDiff, Nat.reduceMul, Nat.reduceSub, reduceCtorEq, tbAJa2, Try.results11, h2, hf]
    exact ret_done (by simp [rightM, hf])
end Go.Proofs.Ytopfanlkbepemaa

/- Arrangements: contracts of the program: New, Clone of differences, Negate, same, EqualFunc. -/
set_option linter.unusedSimpArgs false
set_option maxRecDepth 100000
namespace Go.Proofs.Ytopfanlkbepemaa
open Go.VL Go.Ar Go.Proofs.Ytopfanlkbepemaa
-- @call 54

set_option linter.defProp false in
def tbAIa0 := (And.intro (And.intro (And.intro (And.intro (And.intro (And.intro Ty.sz3 Ty.by3) (And.intro Ty.ag3 (And.intro Ty.zr3 Ty.un3))) (And.intro (And.intro Ty.sz9 (And.intro Ty.by9 Ty.ag9)) (And.intro Ty.zr9 (And.intro Ty.un9 Ty.sz22)))) (And.intro (And.intro (And.intro Ty.by22 Ty.ag22) (And.intro Ty.zr22 (And.intro Ty.un22 Ty.sz24))) (And.intro (And.intro Ty.by24 (And.intro Ty.ag24 Ty.zr24)) (And.intro Ty.fl24_0 (And.intro Ty.pl24_0 Ty.fl24_1))))) (And.intro (And.intro (And.intro (And.intro Ty.pl24_1 Ty.sz41) (And.intro Ty.by41 (And.intro Ty.ag41 Ty.zr41))) (And.intro (And.intro Ty.un41 (And.intro Ty.sz53 Ty.by53)) (And.intro Ty.ag53 (And.intro Ty.zr53 Ty.fl53_0)))) (And.intro (And.intro (And.intro Ty.pl53_0 (And.intro Ty.fl53_1 Ty.pl53_1)) (And.intro Ty.sz54 (And.intro Ty.by54 Ty.ag54))) (And.intro (And.intro Ty.zr54 (And.intro Ty.un54 Ty.sz56)) (And.intro Ty.by56 (And.intro Ty.ag56 Ty.zr56)))))) (And.intro (And.intro (And.intro (And.intro (And.intro Ty.fl56_0 Ty.pl56_0) (And.intro Ty.fl56_1 (And.intro Ty.pl56_1 Ty.fl56_2))) (And.intro (And.intro Ty.pl56_2 (And.intro Ty.fl56_3 Ty.pl56_3)) (And.intro Ty.fl56_4 (And.intro Ty.pl56_4 Ty.fl56_5)))) (And.intro (And.intro (And.intro Ty.pl56_5 Ty.fl56_6) (And.intro Ty.pl56_6 (And.intro Ty.sz61 Ty.by61))) (And.intro (And.intro Ty.ag61 (And.intro Ty.zr61 Ty.fl61_0)) (And.intro Ty.pl61_0 (And.intro Ty.fl61_1 Ty.pl61_1))))) (And.intro (And.intro (And.intro (And.intro Ty.fl61_2 Ty.pl61_2) (And.intro Ty.sz65 (And.intro Ty.by65 Ty.ag65))) (And.intro (And.intro Ty.zr65 (And.intro Ty.fl65_0 Ty.pl65_0)) (And.intro Ty.fl65_1 (And.intro Ty.pl65_1 Ty.sz109)))) (And.intro (And.intro (And.intro Ty.by109 (And.intro Ty.ag109 Ty.zr109)) (And.intro Ty.fl109_0 (And.intro Ty.pl109_0 Ty.fl109_1))) (And.intro (And.intro Ty.pl109_1 (And.intro Ty.fl109_2 Ty.pl109_2)) (And.intro Ty.eq53 (And.intro Ty.eq109 Ty.cb54)))))))
theorem newP_ok (s : Int) : OkP Try.prog 29 [vint s] (vArr ⟨s, []⟩) := by
  refine Ok.of_ex Ty.mixed Try.func29 rfl (by simp [Try.ntmps29]) (by kernel_rfl) fun F w0 I0 => ?_
  simp only [↓ruleA0, ↓ruleA1, ↓ruleA2, ruleB0, ruleB1, ruleB2, ruleB3, ruleL, ↓retK, ncall, Todo_eq, packV, eqTB, litB, litV, fitL, fit, veqL, veq, sbin, sun, nilB, cellsV, oneB, okC, vals, fillV, partsE, Int.reduceLE, Int.reduceLT, Int.reduceToNat, Nat.reduceAdd, Nat.reduceEqDiff, Nat.reduceLT, Nat.reduceLeDiff, Nat.reduceMul, Nat.reduceSub, reduceCtorEq, tbAIa0, Try.results29]
  refine fun b2 h2 => ?_; replace h2 := newb h2; try simp only [Nb] at h2
  simp only [↓ruleA0, ↓ruleA1, ↓ruleA2, ruleB0, ruleB1, ruleB2, ruleB3, ruleL, ↓retK, ncall, Todo_eq, packV, eqTB, litB, litV, fitL, fit, veqL, veq, sbin, sun, nilB, cellsV, oneB, okC, vals, fillV, partsE, Int.reduceLE, Int.reduceLT, Int.reduceToNat, Nat.reduceAdd, Nat.reduceEqDiff, Nat.reduceLT, Nat.reduceLeDiff, Nat.reduceMul, Nat.reduceSub, reduceCtorEq, tbAIa0, Try.results29, h2]
  exact ret_le (Le.arr0 _)
set_option linter.defProp false in
def tbAIa1 := (And.intro (And.intro (And.intro (And.intro (And.intro (And.intro Ty.sz3 Ty.by3) (And.intro Ty.ag3 (And.intro Ty.zr3 Ty.un3))) (And.intro (And.intro Ty.sz9 (And.intro Ty.by9 Ty.ag9)) (And.intro Ty.zr9 (And.intro Ty.un9 Ty.sz22)))) (And.intro (And.intro (And.intro Ty.by22 Ty.ag22) (And.intro Ty.zr22 (And.intro Ty.un22 Ty.sz24))) (And.intro (And.intro Ty.by24 (And.intro Ty.ag24 Ty.zr24)) (And.intro Ty.fl24_0 (And.intro Ty.pl24_0 Ty.fl24_1))))) (And.intro (And.intro (And.intro (And.intro Ty.pl24_1 Ty.sz41) (And.intro Ty.by41 (And.intro Ty.ag41 Ty.zr41))) (And.intro (And.intro Ty.un41 (And.intro Ty.sz53 Ty.by53)) (And.intro Ty.ag53 (And.intro Ty.zr53 Ty.fl53_0)))) (And.intro (And.intro (And.intro Ty.pl53_0 (And.intro Ty.fl53_1 Ty.pl53_1)) (And.intro Ty.sz54 (And.intro Ty.by54 Ty.ag54))) (And.intro (And.intro Ty.zr54 (And.intro Ty.un54 Ty.sz56)) (And.intro Ty.by56 (And.intro Ty.ag56 Ty.zr56)))))) (And.intro (And.intro (And.intro (And.intro (And.intro Ty.fl56_0 Ty.pl56_0) (And.intro Ty.fl56_1 (And.intro Ty.pl56_1 Ty.fl56_2))) (And.intro (And.intro Ty.pl56_2 (And.intro Ty.fl56_3 Ty.pl56_3)) (And.intro Ty.fl56_4 (And.intro Ty.pl56_4 Ty.fl56_5)))) (And.intro (And.intro (And.intro Ty.pl56_5 Ty.fl56_6) (And.intro Ty.pl56_6 (And.intro Ty.sz61 Ty.by61))) (And.intro (And.intro Ty.ag61 (And.intro Ty.zr61 Ty.fl61_0)) (And.intro Ty.pl61_0 (And.intro Ty.fl61_1 Ty.pl61_1))))) (And.intro (And.intro (And.intro (And.intro Ty.fl61_2 Ty.pl61_2) (And.intro Ty.sz65 (And.intro Ty.by65 Ty.ag65))) (And.intro (And.intro Ty.zr65 (And.intro Ty.fl65_0 Ty.pl65_0)) (And.intro Ty.fl65_1 (And.intro Ty.pl65_1 Ty.sz109)))) (And.intro (And.intro (And.intro Ty.by109 (And.intro Ty.ag109 Ty.zr109)) (And.intro Ty.fl109_0 (And.intro Ty.pl109_0 Ty.fl109_1))) (And.intro (And.intro Ty.pl109_1 (And.intro Ty.fl109_2 Ty.pl109_2)) (And.intro Ty.eq53 (And.intro Ty.eq109 Ty.cb54)))))))
theorem new20_ok (s : Int) : OkP Try.prog 30 [vint s] (vArr ⟨s, []⟩) := by
  refine Ok.of_ex Ty.mixed Try.func30 rfl (by simp [Try.ntmps30]) (by kernel_rfl) fun F w0 I0 => ?_
  simp only [↓ruleA0, ↓ruleA1, ↓ruleA2, ruleB0, ruleB1, ruleB2, ruleB3, ruleL, ↓retK, ncall, Todo_eq, packV, eqTB, litB, litV, fitL, fit, veqL, veq, sbin, sun, nilB, cellsV, oneB, okC, vals, fillV, partsE, Int.reduceLE, Int.reduceLT, Int.reduceToNat, Nat.reduceAdd, Nat.reduceEqDiff, Nat.reduceLT, Nat.reduceLeDiff, Nat.reduceMul, Nat.reduceSub, reduceCtorEq, tbAIa1, Try.results30]
  refine fun b2 h2 => ?_; replace h2 := newb h2; try simp only [Nb] at h2
  simp only [↓ruleA0, ↓ruleA1, ↓ruleA2, ruleB0, ruleB1, ruleB2, ruleB3, ruleL, ↓retK, ncall, Todo_eq, packV, eqTB, litB, litV, fitL, fit, veqL, veq, sbin, sun, nilB, cellsV, oneB, okC, vals, fillV, partsE, Int.reduceLE, Int.reduceLT, Int.reduceToNat, Nat.reduceAdd, Nat.reduceEqDiff, Nat.reduceLT, Nat.reduceLeDiff, Nat.reduceMul, Nat.reduceSub, reduceCtorEq, tbAIa1, Try.results30, h2]
  exact ret_le (Le.arr0 _)
set_option linter.defProp false in
def tbAIa2 := (And.intro (And.intro (And.intro Ty.sz3 (And.intro Ty.by3 Ty.ag3)) (And.intro (And.intro Ty.zr3 Ty.un3) (And.intro Ty.sz26 Ty.by26))) (And.intro (And.intro (And.intro Ty.ag26 Ty.zr26) (And.intro Ty.fl26_0 Ty.pl26_0)) (And.intro (And.intro Ty.fl26_1 Ty.pl26_1) (And.intro Ty.eq26 Ty.cb54))))
theorem ever_ok : OkP Try.prog 24 [] (.agg [vint 0, vint 1099511627776]) := by
  refine Ok.of_ex Ty.mixed Try.func24 rfl (by simp [Try.ntmps24]) (by kernel_rfl) fun F w0 I0 => ?_
  simp only [↓ruleA0, ↓ruleA1, ↓ruleA2, ruleB0, ruleB1, ruleB2, ruleB3, ruleL, ↓retK, ncall, Todo_eq, packV, eqTB, litB, litV, fitL, fit, veqL, veq, sbin, sun, nilB, cellsV, oneB, okC, vals, fillV, partsE, Int.reduceLE, Int.reduceLT, Int.reduceToNat, Nat.reduceAdd, Nat.reduceEqDiff, Nat.reduceLT, Nat.reduceLeDiff, Nat.reduceMul, Nat.reduceSub, reduceCtorEq, tbAIa2, Try.results24]
  refine fun b2 h2 => ?_; replace h2 := newb h2; try simp only [Nb] at h2
  simp only [↓ruleA0, ↓ruleA1, ↓ruleA2, ruleB0, ruleB1, ruleB2, ruleB3, ruleL, ↓retK, ncall, Todo_eq, packV, eqTB, litB, litV, fitL, fit, veqL, veq, sbin, sun, nilB, cellsV, oneB, okC, vals, fillV, partsE, Int.reduceLE, Int.reduceLT, Int.reduceToNat, Nat.reduceAdd, Nat.reduceEqDiff, Nat.reduceLT, Nat.reduceLeDiff, Nat.reduceMul, Nat.reduceSub, reduceCtorEq, tbAIa2, Try.results24, h2]
  exact ret_done rfl

/-! ### Clone, Negate -/
set_option linter.defProp false in
def tbAIa3 := (And.intro (And.intro (And.intro (And.intro (And.intro (And.intro Ty.sz3 Ty.by3) (And.intro Ty.ag3 Ty.zr3)) (And.intro (And.intro Ty.un3 Ty.sz4) (And.intro Ty.by4 (And.intro Ty.ag4 Ty.zr4)))) (And.intro (And.intro (And.intro Ty.un4 Ty.sz9) (And.intro Ty.by9 Ty.ag9)) (And.intro (And.intro Ty.zr9 Ty.un9) (And.intro Ty.sz41 (And.intro Ty.by41 Ty.ag41))))) (And.intro (And.intro (And.intro (And.intro Ty.zr41 Ty.un41) (And.intro Ty.sz53 Ty.by53)) (And.intro (And.intro Ty.ag53 Ty.zr53) (And.intro Ty.fl53_0 (And.intro Ty.pl53_0 Ty.fl53_1)))) (And.intro (And.intro (And.intro Ty.pl53_1 Ty.sz54) (And.intro Ty.by54 (And.intro Ty.ag54 Ty.zr54))) (And.intro (And.intro Ty.un54 Ty.sz56) (And.intro Ty.by56 (And.intro Ty.ag56 Ty.zr56)))))) (And.intro (And.intro (And.intro (And.intro (And.intro Ty.fl56_0 Ty.pl56_0) (And.intro Ty.fl56_1 Ty.pl56_1)) (And.intro (And.intro Ty.fl56_2 Ty.pl56_2) (And.intro Ty.fl56_3 (And.intro Ty.pl56_3 Ty.fl56_4)))) (And.intro (And.intro (And.intro Ty.pl56_4 Ty.fl56_5) (And.intro Ty.pl56_5 Ty.fl56_6)) (And.intro (And.intro Ty.pl56_6 Ty.sz61) (And.intro Ty.by61 (And.intro Ty.ag61 Ty.zr61))))) (And.intro (And.intro (And.intro (And.intro Ty.fl61_0 Ty.pl61_0) (And.intro Ty.fl61_1 Ty.pl61_1)) (And.intro (And.intro Ty.fl61_2 Ty.pl61_2) (And.intro Ty.sz109 (And.intro Ty.by109 Ty.ag109)))) (And.intro (And.intro (And.intro Ty.zr109 Ty.fl109_0) (And.intro Ty.pl109_0 (And.intro Ty.fl109_1 Ty.pl109_1))) (And.intro (And.intro Ty.fl109_2 Ty.pl109_2) (And.intro Ty.eq53 (And.intro Ty.eq109 Ty.cb54)))))))
theorem cloneD_ok (d : List Dlt) (hd : d.length ≤ big) : Ok Try.prog 43 [vDlts d] [] fun v bs rs => bs = [] ∧ ((d = [] ∧ v = nilS ∧ rs = []) ∨ ∃ y, v = .list (some y) 10 (d.map cDlt) ∧ rs = [⟨y, 10, 61⟩]) := by
  unfold big at hd
  match d, hd with
  | [], _ =>
    refine Ok.list0 (fun c => ?_) fun p c => ?_
    · refine Ok.of_ex Ty.mixed Try.func43 rfl (by simp [Try.ntmps43]) (by kernel_rfl) fun F w0 I0 => ?_
      simp only [↓ruleA0, ↓ruleA1, ↓ruleA2, ruleB0, ruleB1, ruleB2, ruleB3, ruleL, ↓retK, ncall, Todo_eq, packV, eqTB, litB, litV, fitL, fit, veqL, veq, sbin, sun, nilB, cellsV, oneB, okC, vals, fillV, partsE, Int.reduceLE, Int.reduceLT, Int.reduceToNat, Nat.reduceAdd, Nat.reduceEqDiff, Nat.reduceLT, Nat.reduceLeDiff, Nat.reduceMul, Nat.reduceSub, reduceCtorEq, tbAIa3, Try.results43]
      exact ⟨_, [], [], Le.refl _, List.nil_sublist _, List.nil_sublist _, rfl, .inl ⟨rfl, rfl⟩⟩
    · refine Ok.of_ex Ty.mixed Try.func43 rfl (by simp [Try.ntmps43]) (by kernel_rfl) fun F w0 I0 => ?_
      simp only [↓ruleA0, ↓ruleA1, ↓ruleA2, ruleB0, ruleB1, ruleB2, ruleB3, ruleL, ↓retK, ncall, Todo_eq, packV, eqTB, litB, litV, fitL, fit, veqL, veq, sbin, sun, nilB, cellsV, oneB, okC, vals, fillV, partsE, Int.reduceLE, Int.reduceLT, Int.reduceToNat, Nat.reduceAdd, Nat.reduceEqDiff, Nat.reduceLT, Nat.reduceLeDiff, Nat.reduceMul, Nat.reduceSub, reduceCtorEq, tbAIa3, Try.results43]
      refine fun y y2 => ?_
      exact ⟨_, [], [_], Le.refl _, List.nil_sublist _, List.Sublist.refl _, rfl, .inr ⟨y2, rfl, rfl⟩⟩
  | x :: d, hd =>
    refine Ok.of_ex Ty.mixed Try.func43 rfl (by simp [Try.ntmps43]) (by kernel_rfl) fun F w0 I0 => ?_
    simp only [↓ruleA0, ↓ruleA1, ↓ruleA2, ruleB0, ruleB1, ruleB2, ruleB3, ruleL, ↓retK, ncall, Todo_eq, packV, eqTB, litB, litV, fitL, fit, veqL, veq, sbin, sun, nilB, cellsV, oneB, okC, vals, fillV, partsE, Int.reduceLE, Int.reduceLT, Int.reduceToNat, Nat.reduceAdd, Nat.reduceEqDiff, Nat.reduceLT, Nat.reduceLeDiff, Nat.reduceMul, Nat.reduceSub, reduceCtorEq, tbAIa3, Try.results43]
    refine fun y => ?_
    simp only [↓ruleA0, ↓ruleA1, ↓ruleA2, ruleB0, ruleB1, ruleB2, ruleB3, ruleL, ↓retK, ncall, Todo_eq, packV, eqTB, litB, litV, fitL, fit, veqL, veq, sbin, sun, nilB, cellsV, oneB, okC, vals, fillV, partsE, Int.reduceLE, Int.reduceLT, Int.reduceToNat, Nat.reduceAdd, Nat.reduceEqDiff, Nat.reduceLT, Nat.reduceLeDiff, Nat.reduceMul, Nat.reduceSub, reduceCtorEq, tbAIa3, Try.results43, List.length_map]
    refine ⟨by simp only [List.length_cons, List.length_map] at hd ⊢; omega, fun y2 => ?_⟩
    exact ⟨_, [], [_], Le.refl _, List.nil_sublist _, List.Sublist.refl _, rfl, y2, rfl, rfl⟩

end Go.Proofs.Ytopfanlkbepemaa

/- Arrangements: contracts of the program: Rows. -/
set_option linter.unusedSimpArgs false
set_option maxRecDepth 100000
namespace Go.Proofs.Ytopfanlkbepemaa
open Go.VL Go.Ar Go.Proofs.Ytopfanlkbepemaa
-- @call 60
-- @call 58

set_option linter.defProp false in
def tbAIb0 := (And.intro (And.intro (And.intro (And.intro (And.intro (And.intro Ty.sz3 Ty.by3) (And.intro Ty.ag3 (And.intro Ty.zr3 Ty.un3))) (And.intro (And.intro Ty.sz4 (And.intro Ty.by4 Ty.ag4)) (And.intro Ty.zr4 (And.intro Ty.un4 Ty.sz9)))) (And.intro (And.intro (And.intro Ty.by9 Ty.ag9) (And.intro Ty.zr9 (And.intro Ty.un9 Ty.sz22))) (And.intro (And.intro Ty.by22 (And.intro Ty.ag22 Ty.zr22)) (And.intro Ty.un22 (And.intro Ty.sz41 Ty.by41))))) (And.intro (And.intro (And.intro (And.intro Ty.ag41 Ty.zr41) (And.intro Ty.un41 (And.intro Ty.sz53 Ty.by53))) (And.intro (And.intro Ty.ag53 (And.intro Ty.zr53 Ty.fl53_0)) (And.intro Ty.pl53_0 (And.intro Ty.fl53_1 Ty.pl53_1)))) (And.intro (And.intro (And.intro Ty.sz54 Ty.by54) (And.intro Ty.ag54 (And.intro Ty.zr54 Ty.un54))) (And.intro (And.intro Ty.sz56 (And.intro Ty.by56 Ty.ag56)) (And.intro Ty.zr56 (And.intro Ty.fl56_0 Ty.pl56_0)))))) (And.intro (And.intro (And.intro (And.intro (And.intro Ty.fl56_1 Ty.pl56_1) (And.intro Ty.fl56_2 (And.intro Ty.pl56_2 Ty.fl56_3))) (And.intro (And.intro Ty.pl56_3 (And.intro Ty.fl56_4 Ty.pl56_4)) (And.intro Ty.fl56_5 (And.intro Ty.pl56_5 Ty.fl56_6)))) (And.intro (And.intro (And.intro Ty.pl56_6 Ty.sz61) (And.intro Ty.by61 (And.intro Ty.ag61 Ty.zr61))) (And.intro (And.intro Ty.fl61_0 (And.intro Ty.pl61_0 Ty.fl61_1)) (And.intro Ty.pl61_1 (And.intro Ty.fl61_2 Ty.pl61_2))))) (And.intro (And.intro (And.intro (And.intro Ty.sz65 Ty.by65) (And.intro Ty.ag65 (And.intro Ty.zr65 Ty.fl65_0))) (And.intro (And.intro Ty.pl65_0 (And.intro Ty.fl65_1 Ty.pl65_1)) (And.intro Ty.sz109 (And.intro Ty.by109 Ty.ag109)))) (And.intro (And.intro (And.intro Ty.zr109 Ty.fl109_0) (And.intro Ty.pl109_0 (And.intro Ty.fl109_1 Ty.pl109_1))) (And.intro (And.intro Ty.fl109_2 (And.intro Ty.pl109_2 Ty.eq53)) (And.intro Ty.eq109 (And.intro Ty.cb58 Ty.cb60)))))))
theorem cloneG_ok (gs : List Grp) (hd : gs.length ≤ big) : Ok Try.prog 57 [vGrps gs] [] fun v bs rs => bs = [] ∧ ((gs = [] ∧ v = nilS ∧ rs = []) ∨ ∃ y, v = .list (some y) 2 (gs.map cGrp) ∧ rs = [⟨y, 2, 65⟩]) := by
  unfold big at hd
  match gs, hd with
  | [], _ =>
    refine Ok.list0 (fun c => ?_) fun p c => ?_
    · refine Ok.of_ex Ty.mixed Try.func57 rfl (by simp [Try.ntmps57]) (by kernel_rfl) fun F w0 I0 => ?_
      simp only [↓ruleA0, ↓ruleA1, ↓ruleA2, ruleB0, ruleB1, ruleB2, ruleB3, ruleL, ↓retK, ncall, Todo_eq, packV, eqTB, litB, litV, fitL, fit, veqL, veq, sbin, sun, nilB, cellsV, oneB, okC, vals, fillV, partsE, Int.reduceLE, Int.reduceLT, Int.reduceToNat, Nat.reduceAdd, Nat.reduceEqDiff, Nat.reduceLT, Nat.reduceLeDiff, Nat.reduceMul, Nat.reduceSub, reduceCtorEq, tbAIb0, Try.results57]
      exact ⟨_, [], [], Le.refl _, List.nil_sublist _, List.nil_sublist _, rfl, .inl ⟨rfl, rfl⟩⟩
    · refine Ok.of_ex Ty.mixed Try.func57 rfl (by simp [Try.ntmps57]) (by kernel_rfl) fun F w0 I0 => ?_
      simp only [↓ruleA0, ↓ruleA1, ↓ruleA2, ruleB0, ruleB1, ruleB2, ruleB3, ruleL, ↓retK, ncall, Todo_eq, packV, eqTB, litB, litV, fitL, fit, veqL, veq, sbin, sun, nilB, cellsV, oneB, okC, vals, fillV, partsE, Int.reduceLE, Int.reduceLT, Int.reduceToNat, Nat.reduceAdd, Nat.reduceEqDiff, Nat.reduceLT, Nat.reduceLeDiff, Nat.reduceMul, Nat.reduceSub, reduceCtorEq, tbAIb0, Try.results57]
      refine fun y y2 => ?_
      exact ⟨_, [], [_], Le.refl _, List.nil_sublist _, List.Sublist.refl _, rfl, .inr ⟨y2, rfl, rfl⟩⟩
  | x :: d, hd =>
    refine Ok.of_ex Ty.mixed Try.func57 rfl (by simp [Try.ntmps57]) (by kernel_rfl) fun F w0 I0 => ?_
    simp only [↓ruleA0, ↓ruleA1, ↓ruleA2, ruleB0, ruleB1, ruleB2, ruleB3, ruleL, ↓retK, ncall, Todo_eq, packV, eqTB, litB, litV, fitL, fit, veqL, veq, sbin, sun, nilB, cellsV, oneB, okC, vals, fillV, partsE, Int.reduceLE, Int.reduceLT, Int.reduceToNat, Nat.reduceAdd, Nat.reduceEqDiff, Nat.reduceLT, Nat.reduceLeDiff, Nat.reduceMul, Nat.reduceSub, reduceCtorEq, tbAIb0, Try.results57]
    refine fun y => ?_
    simp only [↓ruleA0, ↓ruleA1, ↓ruleA2, ruleB0, ruleB1, ruleB2, ruleB3, ruleL, ↓retK, ncall, Todo_eq, packV, eqTB, litB, litV, fitL, fit, veqL, veq, sbin, sun, nilB, cellsV, oneB, okC, vals, fillV, partsE, Int.reduceLE, Int.reduceLT, Int.reduceToNat, Nat.reduceAdd, Nat.reduceEqDiff, Nat.reduceLT, Nat.reduceLeDiff, Nat.reduceMul, Nat.reduceSub, reduceCtorEq, tbAIb0, Try.results57, List.length_map]
    refine ⟨by simp only [List.length_cons, List.length_map] at hd ⊢; omega, fun y2 => ?_⟩
    exact ⟨_, [], [_], Le.refl _, List.nil_sublist _, List.Sublist.refl _, rfl, y2, rfl, rfl⟩
set_option linter.defProp false in
def tbAIb1 := (And.intro (And.intro (And.intro (And.intro (And.intro (And.intro Ty.sz3 (And.intro Ty.by3 Ty.ag3)) (And.intro Ty.zr3 (And.intro Ty.un3 Ty.sz9))) (And.intro (And.intro Ty.by9 (And.intro Ty.ag9 Ty.zr9)) (And.intro Ty.un9 (And.intro Ty.sz22 Ty.by22)))) (And.intro (And.intro (And.intro Ty.ag22 (And.intro Ty.zr22 Ty.un22)) (And.intro Ty.sz41 (And.intro Ty.by41 Ty.ag41))) (And.intro (And.intro Ty.zr41 (And.intro Ty.un41 Ty.sz53)) (And.intro (And.intro Ty.by53 Ty.ag53) (And.intro Ty.zr53 Ty.fl53_0))))) (And.intro (And.intro (And.intro (And.intro Ty.pl53_0 (And.intro Ty.fl53_1 Ty.pl53_1)) (And.intro Ty.sz54 (And.intro Ty.by54 Ty.ag54))) (And.intro (And.intro Ty.zr54 (And.intro Ty.un54 Ty.sz56)) (And.intro Ty.by56 (And.intro Ty.ag56 Ty.zr56)))) (And.intro (And.intro (And.intro Ty.fl56_0 (And.intro Ty.pl56_0 Ty.fl56_1)) (And.intro Ty.pl56_1 (And.intro Ty.fl56_2 Ty.pl56_2))) (And.intro (And.intro Ty.fl56_3 (And.intro Ty.pl56_3 Ty.fl56_4)) (And.intro (And.intro Ty.pl56_4 Ty.fl56_5) (And.intro Ty.pl56_5 Ty.fl56_6)))))) (And.intro (And.intro (And.intro (And.intro (And.intro Ty.pl56_6 (And.intro Ty.sz61 Ty.by61)) (And.intro Ty.ag61 (And.intro Ty.zr61 Ty.fl61_0))) (And.intro (And.intro Ty.pl61_0 (And.intro Ty.fl61_1 Ty.pl61_1)) (And.intro Ty.fl61_2 (And.intro Ty.pl61_2 Ty.sz65)))) (And.intro (And.intro (And.intro Ty.by65 (And.intro Ty.ag65 Ty.zr65)) (And.intro Ty.fl65_0 (And.intro Ty.pl65_0 Ty.fl65_1))) (And.intro (And.intro Ty.pl65_1 (And.intro Ty.sz68 Ty.by68)) (And.intro (And.intro Ty.ag68 Ty.zr68) (And.intro Ty.un68 Ty.sz73))))) (And.intro (And.intro (And.intro (And.intro Ty.by73 (And.intro Ty.ag73 Ty.zr73)) (And.intro Ty.sz75 (And.intro Ty.by75 Ty.ag75))) (And.intro (And.intro Ty.zr75 (And.intro Ty.fl75_0 Ty.pl75_0)) (And.intro (And.intro Ty.fl75_1 Ty.pl75_1) (And.intro Ty.sz109 Ty.by109)))) (And.intro (And.intro (And.intro Ty.ag109 (And.intro Ty.zr109 Ty.fl109_0)) (And.intro Ty.pl109_0 (And.intro Ty.fl109_1 Ty.pl109_1))) (And.intro (And.intro Ty.fl109_2 (And.intro Ty.pl109_2 Ty.eq53)) (And.intro (And.intro Ty.eq109 Ty.cb57) (And.intro Ty.cb58 Ty.cb60)))))))
theorem groupsL_ok (gs : List Grp) (hd : gs.length ≤ big) : Ok Try.prog 36 [vGrps gs] [] fun v bs rs => ∃ b, v = ptr b ∧ ((gs = [] ∧ bs = [(b, .c [nilS, keyFn])] ∧ rs = []) ∨ ∃ y, bs = [(b, .c [.list (some y) 2 (gs.map cGrp), keyFn])] ∧ rs = [⟨y, 2, 65⟩]) := by
  refine Ok.of_ex Ty.mixed Try.func36 rfl (by simp [Try.ntmps36]) (by kernel_rfl) fun F w0 I0 => ?_
  simp only [↓ruleA0, ↓ruleA1, ↓ruleA2, ruleB0, ruleB1, ruleB2, ruleB3, ruleL, ↓retK, ncall, Todo_eq, packV, eqTB, litB, litV, fitL, fit, veqL, veq, sbin, sun, nilB, cellsV, oneB, okC, vals, fillV, partsE, Int.reduceLE, Int.reduceLT, Int.reduceToNat, Nat.reduceAdd, Nat.reduceEqDiff, Nat.reduceLT, Nat.reduceLeDiff, Nat.reduceMul, Nat.reduceSub, reduceCtorEq, tbAIb1, Try.results36]
  refine OkF_back (cloneG_ok gs hd) ?_
  rintro v bs rs ⟨rfl, ⟨h0, rfl, rfl⟩ | ⟨y, rfl, rfl⟩⟩
  · simp only [↓ruleA0, ↓ruleA1, ↓ruleA2, ruleB0, ruleB1, ruleB2, ruleB3, ruleL, ↓retK, ncall, Todo_eq, packV, eqTB, litB, litV, fitL, fit, veqL, veq, sbin, sun, nilB, cellsV, oneB, okC, vals, fillV, partsE, Int.reduceLE, Int.reduceLT, Int.reduceToNat, Nat.reduceAdd, Nat.reduceEqDiff, Nat.reduceLT, Nat.reduceLeDiff, Nat.reduceMul, Nat.reduceSub, reduceCtorEq, tbAIb1, Try.results36]
    refine fun b1 h1 => ?_; replace h1 := newb h1; try simp only [Nb] at h1
    simp only [↓ruleA0, ↓ruleA1, ↓ruleA2, ruleB0, ruleB1, ruleB2, ruleB3, ruleL, ↓retK, ncall, Todo_eq, packV, eqTB, litB, litV, fitL, fit, veqL, veq, sbin, sun, nilB, cellsV, oneB, okC, vals, fillV, partsE, Int.reduceLE, Int.reduceLT, Int.reduceToNat, Nat.reduceAdd, Nat.reduceEqDiff, Nat.reduceLT, Nat.reduceLeDiff, Nat.reduceMul, Nat.reduceSub, reduceCtorEq, tbAIb1, Try.results36]
    exact ⟨_, [_], [], Le.refl _, List.Sublist.refl _, List.nil_sublist _, b1, rfl, .inl ⟨h0, rfl, rfl⟩⟩
  · simp only [↓ruleA0, ↓ruleA1, ↓ruleA2, ruleB0, ruleB1, ruleB2, ruleB3, ruleL, ↓retK, ncall, Todo_eq, packV, eqTB, litB, litV, fitL, fit, veqL, veq, sbin, sun, nilB, cellsV, oneB, okC, vals, fillV, partsE, Int.reduceLE, Int.reduceLT, Int.reduceToNat, Nat.reduceAdd, Nat.reduceEqDiff, Nat.reduceLT, Nat.reduceLeDiff, Nat.reduceMul, Nat.reduceSub, reduceCtorEq, tbAIb1, Try.results36]
    refine fun b1 h1 => ?_; replace h1 := newb h1; try simp only [Nb] at h1
    simp only [↓ruleA0, ↓ruleA1, ↓ruleA2, ruleB0, ruleB1, ruleB2, ruleB3, ruleL, ↓retK, ncall, Todo_eq, packV, eqTB, litB, litV, fitL, fit, veqL, veq, sbin, sun, nilB, cellsV, oneB, okC, vals, fillV, partsE, Int.reduceLE, Int.reduceLT, Int.reduceToNat, Nat.reduceAdd, Nat.reduceEqDiff, Nat.reduceLT, Nat.reduceLeDiff, Nat.reduceMul, Nat.reduceSub, reduceCtorEq, tbAIb1, Try.results36]
    exact ⟨_, [_], [_], Le.refl _, List.Sublist.refl _, List.Sublist.refl _, b1, rfl, .inr ⟨y, rfl, rfl⟩⟩
def SortedG (l : List Grp) : Prop := l.Pairwise fun a b => less a.key b.key = true
set_option linter.defProp false in
def tbAIb2 := (And.intro (And.intro (And.intro (And.intro (And.intro (And.intro Ty.sz3 (And.intro Ty.by3 Ty.ag3)) (And.intro Ty.zr3 (And.intro Ty.un3 Ty.sz4))) (And.intro (And.intro Ty.by4 (And.intro Ty.ag4 Ty.zr4)) (And.intro Ty.un4 (And.intro Ty.sz9 Ty.by9)))) (And.intro (And.intro (And.intro Ty.ag9 (And.intro Ty.zr9 Ty.un9)) (And.intro Ty.sz22 (And.intro Ty.by22 Ty.ag22))) (And.intro (And.intro Ty.zr22 (And.intro Ty.un22 Ty.sz41)) (And.intro Ty.by41 (And.intro Ty.ag41 Ty.zr41))))) (And.intro (And.intro (And.intro (And.intro Ty.un41 (And.intro Ty.sz53 Ty.by53)) (And.intro Ty.ag53 (And.intro Ty.zr53 Ty.fl53_0))) (And.intro (And.intro Ty.pl53_0 (And.intro Ty.fl53_1 Ty.pl53_1)) (And.intro Ty.sz54 (And.intro Ty.by54 Ty.ag54)))) (And.intro (And.intro (And.intro Ty.zr54 (And.intro Ty.un54 Ty.sz56)) (And.intro Ty.by56 (And.intro Ty.ag56 Ty.zr56))) (And.intro (And.intro Ty.fl56_0 (And.intro Ty.pl56_0 Ty.fl56_1)) (And.intro Ty.pl56_1 (And.intro Ty.fl56_2 Ty.pl56_2)))))) (And.intro (And.intro (And.intro (And.intro (And.intro Ty.fl56_3 (And.intro Ty.pl56_3 Ty.fl56_4)) (And.intro Ty.pl56_4 (And.intro Ty.fl56_5 Ty.pl56_5))) (And.intro (And.intro Ty.fl56_6 (And.intro Ty.pl56_6 Ty.sz61)) (And.intro Ty.by61 (And.intro Ty.ag61 Ty.zr61)))) (And.intro (And.intro (And.intro Ty.fl61_0 (And.intro Ty.pl61_0 Ty.fl61_1)) (And.intro Ty.pl61_1 (And.intro Ty.fl61_2 Ty.pl61_2))) (And.intro (And.intro Ty.sz65 (And.intro Ty.by65 Ty.ag65)) (And.intro Ty.zr65 (And.intro Ty.fl65_0 Ty.pl65_0))))) (And.intro (And.intro (And.intro (And.intro Ty.fl65_1 (And.intro Ty.pl65_1 Ty.sz90)) (And.intro Ty.by90 (And.intro Ty.ag90 Ty.zr90))) (And.intro (And.intro Ty.sz109 (And.intro Ty.by109 Ty.ag109)) (And.intro Ty.zr109 (And.intro Ty.fl109_0 Ty.pl109_0)))) (And.intro (And.intro (And.intro Ty.fl109_1 (And.intro Ty.pl109_1 Ty.fl109_2)) (And.intro Ty.pl109_2 (And.intro Ty.sz112 Ty.by112))) (And.intro (And.intro Ty.ag112 (And.intro Ty.zr112 Ty.un112)) (And.intro (And.intro Ty.eq53 Ty.eq109) (And.intro Ty.cb58 Ty.cb60)))))))
theorem bsearchL_ok (l : List Grp) (key : Str) (bi bp : Nat) (sl : V) (own : Option Value) (hl : l.length ≤ big) (hs : SortedG l) (h1 : bi ≠ bp) :
    Ok Try.prog 59 [.list own 2 (l.map cGrp), vstr key, placeFn bp] [(bp, .c [ptr bi]), (bi, .c [sl, keyFn])] fun v bs rs =>
      bs = [(bp, .c [ptr bi]), (bi, .c [sl, keyFn])] ∧ rs = [] ∧ ∃ i, i ≤ l.length ∧ (∀ j, (h : j < l.length) → (j < i ↔ less l[j].key key = true)) ∧ v = .tup [vint i, vbool (decide (l[i]?.map (·.key) = some key))] := by
  refine Ok.of_ex Ty.mixed Try.func59 rfl (by simp [Try.ntmps59]) (by kernel_rfl) fun F w0 I0 => ?_
  unfold big at hl
  simp only [↓ruleA0, ↓ruleA1, ↓ruleA2, ruleB0, ruleB1, ruleB2, ruleB3, ruleL, ↓retK, ncall, Todo_eq, packV, eqTB, litB, litV, fitL, fit, veqL, veq, sbin, sun, nilB, cellsV, oneB, okC, vals, fillV, partsE, Int.reduceLE, Int.reduceLT, Int.reduceToNat, Nat.reduceAdd, Nat.reduceEqDiff, Nat.reduceLT, Nat.reduceLeDiff, Nat.reduceMul, Nat.reduceSub, reduceCtorEq, tbAIb2, Try.results59, List.length_map]
  refine EX_while Ty.mixed (by kernel_rfl) (fun x => x.2 - x.1) (fun (x : Nat × Nat) S => (x.1 ≤ x.2 ∧ x.2 ≤ l.length ∧ (∀ j, (h : j < l.length) → j < x.1 → less l[j].key key = true) ∧ ∀ j, (h : j < l.length) → x.2 ≤ j → less l[j].key key = false) ∧ S.σ 0 = .list own 2 (l.map cGrp) ∧ S.σ 1 = vstr key ∧ S.σ 2 = placeFn bp ∧ S.σ 8 = vint l.length ∧ S.σ 9 = vint x.1 ∧ S.σ 10 = vint x.2 ∧ S.rows = [] ∧ S.boxes = [(bp, .c [ptr bi]), (bi, .c [sl, keyFn])]) (0, l.length) ⟨0, ⟨Nat.zero_le _, Nat.le_refl _, fun j h h' => by omega, fun j h h' => by omega⟩, ?_⟩ (fun ⟨i, k⟩ S ⟨⟨hik, hk, hlo, hhi⟩, g0, g1, g2, g8, g9, g10, gr, gb⟩ => ?_)
  · simp only [↓ruleA0, ↓ruleA1, ↓ruleA2, ruleB0, ruleB1, ruleB2, ruleB3, ruleL, ↓retK, ncall, Todo_eq, packV, eqTB, litB, litV, fitL, fit, veqL, veq, sbin, sun, nilB, cellsV, oneB, okC, vals, fillV, partsE, Int.reduceLE, Int.reduceLT, Int.reduceToNat, Nat.reduceAdd, Nat.reduceEqDiff, Nat.reduceLT, Nat.reduceLeDiff, Nat.reduceMul, Nat.reduceSub, reduceCtorEq, tbAIb2, Try.results59, List.length_map]
  · simp only at hik hk hlo hhi g9 g10
    by_cases hlt : i < k
    · simp only [↓ruleA0, ↓ruleA1, ↓ruleA2, ruleB0, ruleB1, ruleB2, ruleB3, ruleL, ↓retK, ncall, Todo_eq, packV, eqTB, litB, litV, fitL, fit, veqL, veq, sbin, sun, nilB, cellsV, oneB, okC, vals, fillV, partsE, Int.reduceLE, Int.reduceLT, Int.reduceToNat, Nat.reduceAdd, Nat.reduceEqDiff, Nat.reduceLT, Nat.reduceLeDiff, Nat.reduceMul, Nat.reduceSub, reduceCtorEq, tbAIb2, Try.results59, g0, g1, g2, g8, g9, g10, gr, gb, h1, Int.ofNat_lt, hlt]
      have hm := mid_eq hik (show k ≤ 4194304 by omega)
      generalize hmd : (i + k) / 2 = m at hm
      have hml : m < l.length := by omega
      rw [hm, Int.toNat_natCast]
      simp only [↓ruleA0, ↓ruleA1, ↓ruleA2, ruleB0, ruleB1, ruleB2, ruleB3, ruleL, ↓retK, ncall, Todo_eq, packV, eqTB, litB, litV, fitL, fit, veqL, veq, sbin, sun, nilB, cellsV, oneB, okC, vals, fillV, partsE, Int.reduceLE, Int.reduceLT, Int.reduceToNat, Nat.reduceAdd, Nat.reduceEqDiff, Nat.reduceLT, Nat.reduceLeDiff, Nat.reduceMul, Nat.reduceSub, reduceCtorEq, tbAIb2, Try.results59, List.length_map, Int.ofNat_lt, hml, getD_map]
      refine OkF_with [_, _] [] (List.Perm.refl _) (placeF_ok l[m].key key _ _ bi bp sl h1) ?_
      rintro v bs rs ⟨rfl, rfl, rfl⟩
      cases hc : less l[m].key key
      · have hc' : ¬ cmpS l[m].key key < 0 := fun h => by rw [(less_cmp _ _).2 h] at hc; cases hc
        simp only [↓ruleA0, ↓ruleA1, ↓ruleA2, ruleB0, ruleB1, ruleB2, ruleB3, ruleL, ↓retK, ncall, Todo_eq, packV, eqTB, litB, litV, fitL, fit, veqL, veq, sbin, sun, nilB, cellsV, oneB, okC, vals, fillV, partsE, Int.reduceLE, Int.reduceLT, Int.reduceToNat, Nat.reduceAdd, Nat.reduceEqDiff, Nat.reduceLT, Nat.reduceLeDiff, Nat.reduceMul, Nat.reduceSub, reduceCtorEq, tbAIb2, Try.results59, g0, g1, g2, g8, g9, g10, gr, gb, h1, hc', hm]
        refine ⟨(i, m), by simp only; omega, 0, ⟨by omega, by omega, hlo, fun j h hj => ?_⟩, rfl, rfl, rfl⟩
        rcases Nat.lt_or_ge m j with h' | h'
        · have hmj := (List.pairwise_iff_getElem.1 hs) m j hml h h'
          cases hjc : less l[j].key key
          · rfl
          · rw [less_trans hmj hjc] at hc; cases hc
        · obtain rfl : j = m := by simp only at hj; omega
          exact hc
      · have hc' : cmpS l[m].key key < 0 := (less_cmp _ _).1 hc
        simp only [↓ruleA0, ↓ruleA1, ↓ruleA2, ruleB0, ruleB1, ruleB2, ruleB3, ruleL, ↓retK, ncall, Todo_eq, packV, eqTB, litB, litV, fitL, fit, veqL, veq, sbin, sun, nilB, cellsV, oneB, okC, vals, fillV, partsE, Int.reduceLE, Int.reduceLT, Int.reduceToNat, Nat.reduceAdd, Nat.reduceEqDiff, Nat.reduceLT, Nat.reduceLeDiff, Nat.reduceMul, Nat.reduceSub, reduceCtorEq, tbAIb2, Try.results59, g0, g1, g2, g8, g9, g10, gr, gb, h1, hc', hm, wrap_succ hml (show l.length ≤ 9223372036854775807 by omega)]
        refine ⟨(m + 1, k), by simp only; omega, 0, ⟨by omega, by omega, fun j h hj => ?_, hhi⟩, rfl, rfl, rfl⟩
        rcases Nat.lt_or_ge j m with h' | h'
        · exact less_trans ((List.pairwise_iff_getElem.1 hs) j m h hml h') hc
        · obtain rfl : j = m := by simp only at hj; omega
          exact hc
    · simp only [↓ruleA0, ↓ruleA1, ↓ruleA2, ruleB0, ruleB1, ruleB2, ruleB3, ruleL, ↓retK, ncall, Todo_eq, packV, eqTB, litB, litV, fitL, fit, veqL, veq, sbin, sun, nilB, cellsV, oneB, okC, vals, fillV, partsE, Int.reduceLE, Int.reduceLT, Int.reduceToNat, Nat.reduceAdd, Nat.reduceEqDiff, Nat.reduceLT, Nat.reduceLeDiff, Nat.reduceMul, Nat.reduceSub, reduceCtorEq, tbAIb2, Try.results59, g0, g1, g2, g8, g9, g10, gr, gb, h1, Int.ofNat_lt, hlt]
      obtain rfl : i = k := by omega
      have hspec : ∀ j, (h : j < l.length) → (j < i ↔ less l[j].key key = true) := fun j h => by
        constructor
        · exact hlo j h
        · intro hj
          rcases Nat.lt_or_ge j i with h' | h'
          · exact h'
          · rw [hhi j h h'] at hj; cases hj
      by_cases hil : i < l.length
      · simp only [↓ruleA0, ↓ruleA1, ↓ruleA2, ruleB0, ruleB1, ruleB2, ruleB3, ruleL, ↓retK, ncall, Todo_eq, packV, eqTB, litB, litV, fitL, fit, veqL, veq, sbin, sun, nilB, cellsV, oneB, okC, vals, fillV, partsE, Int.reduceLE, Int.reduceLT, Int.reduceToNat, Nat.reduceAdd, Nat.reduceEqDiff, Nat.reduceLT, Nat.reduceLeDiff, Nat.reduceMul, Nat.reduceSub, reduceCtorEq, tbAIb2, Try.results59, g0, g1, g2, g8, g9, g10, gr, gb, h1, hil, Int.ofNat_lt, List.length_map, getD_map]
        refine OkF_with [_, _] [] (List.Perm.refl _) (placeF_ok l[i].key key _ _ bi bp sl h1) ?_
        rintro v bs rs ⟨rfl, rfl, rfl⟩
        simp only [↓ruleA0, ↓ruleA1, ↓ruleA2, ruleB0, ruleB1, ruleB2, ruleB3, ruleL, ↓retK, ncall, Todo_eq, packV, eqTB, litB, litV, fitL, fit, veqL, veq, sbin, sun, nilB, cellsV, oneB, okC, vals, fillV, partsE, Int.reduceLE, Int.reduceLT, Int.reduceToNat, Nat.reduceAdd, Nat.reduceEqDiff, Nat.reduceLT, Nat.reduceLeDiff, Nat.reduceMul, Nat.reduceSub, reduceCtorEq, tbAIb2, Try.results59, g0, g1, g2, g8, g9, g10, gr, gb, h1, hil]
        refine ⟨_, [_, _], [], Le.refl _, List.Sublist.refl _, List.nil_sublist _, rfl, rfl, i, by omega, hspec, ?_⟩
        have : decide (l[i]?.map (·.key) = some key) = decide (cmpS l[i].key key = 0) := by
          rw [List.getElem?_eq_getElem hil]
          refine decide_eq_decide.2 ?_
          simp [cmpS_eq0]
        rw [this]
      · simp only [↓ruleA0, ↓ruleA1, ↓ruleA2, ruleB0, ruleB1, ruleB2, ruleB3, ruleL, ↓retK, ncall, Todo_eq, packV, eqTB, litB, litV, fitL, fit, veqL, veq, sbin, sun, nilB, cellsV, oneB, okC, vals, fillV, partsE, Int.reduceLE, Int.reduceLT, Int.reduceToNat, Nat.reduceAdd, Nat.reduceEqDiff, Nat.reduceLT, Nat.reduceLeDiff, Nat.reduceMul, Nat.reduceSub, reduceCtorEq, tbAIb2, Try.results59, g0, g1, g2, g8, g9, g10, gr, gb, h1, hil]
        refine ⟨_, [_, _], [], Le.refl _, List.Sublist.refl _, List.nil_sublist _, rfl, rfl, i, by omega, hspec, ?_⟩
        rw [List.getElem?_eq_none (by omega)]
        rfl
set_option linter.defProp false in
def tbAIb3 := (And.intro (And.intro (And.intro (And.intro (And.intro (And.intro Ty.sz3 (And.intro Ty.by3 Ty.ag3)) (And.intro (And.intro Ty.zr3 Ty.un3) (And.intro Ty.sz4 Ty.by4))) (And.intro (And.intro Ty.ag4 (And.intro Ty.zr4 Ty.un4)) (And.intro (And.intro Ty.sz9 Ty.by9) (And.intro Ty.ag9 Ty.zr9)))) (And.intro (And.intro (And.intro Ty.un9 (And.intro Ty.sz22 Ty.by22)) (And.intro (And.intro Ty.ag22 Ty.zr22) (And.intro Ty.un22 Ty.sz41))) (And.intro (And.intro Ty.by41 (And.intro Ty.ag41 Ty.zr41)) (And.intro (And.intro Ty.un41 Ty.sz53) (And.intro Ty.by53 Ty.ag53))))) (And.intro (And.intro (And.intro (And.intro Ty.zr53 (And.intro Ty.fl53_0 Ty.pl53_0)) (And.intro (And.intro Ty.fl53_1 Ty.pl53_1) (And.intro Ty.sz54 Ty.by54))) (And.intro (And.intro Ty.ag54 (And.intro Ty.zr54 Ty.un54)) (And.intro (And.intro Ty.sz56 Ty.by56) (And.intro Ty.ag56 Ty.zr56)))) (And.intro (And.intro (And.intro Ty.fl56_0 (And.intro Ty.pl56_0 Ty.fl56_1)) (And.intro (And.intro Ty.pl56_1 Ty.fl56_2) (And.intro Ty.pl56_2 Ty.fl56_3))) (And.intro (And.intro Ty.pl56_3 (And.intro Ty.fl56_4 Ty.pl56_4)) (And.intro (And.intro Ty.fl56_5 Ty.pl56_5) (And.intro Ty.fl56_6 Ty.pl56_6)))))) (And.intro (And.intro (And.intro (And.intro (And.intro Ty.sz61 (And.intro Ty.by61 Ty.ag61)) (And.intro (And.intro Ty.zr61 Ty.fl61_0) (And.intro Ty.pl61_0 Ty.fl61_1))) (And.intro (And.intro Ty.pl61_1 (And.intro Ty.fl61_2 Ty.pl61_2)) (And.intro (And.intro Ty.sz65 Ty.by65) (And.intro Ty.ag65 Ty.zr65)))) (And.intro (And.intro (And.intro Ty.fl65_0 (And.intro Ty.pl65_0 Ty.fl65_1)) (And.intro (And.intro Ty.pl65_1 Ty.sz68) (And.intro Ty.by68 Ty.ag68))) (And.intro (And.intro Ty.zr68 (And.intro Ty.un68 Ty.sz70)) (And.intro (And.intro Ty.by70 Ty.ag70) (And.intro Ty.sz73 Ty.by73))))) (And.intro (And.intro (And.intro (And.intro Ty.ag73 (And.intro Ty.zr73 Ty.sz75)) (And.intro (And.intro Ty.by75 Ty.ag75) (And.intro Ty.zr75 Ty.fl75_0))) (And.intro (And.intro Ty.pl75_0 (And.intro Ty.fl75_1 Ty.pl75_1)) (And.intro (And.intro Ty.sz90 Ty.by90) (And.intro Ty.ag90 Ty.zr90)))) (And.intro (And.intro (And.intro Ty.sz109 (And.intro Ty.by109 Ty.ag109)) (And.intro (And.intro Ty.zr109 Ty.fl109_0) (And.intro Ty.pl109_0 Ty.fl109_1))) (And.intro (And.intro (And.intro Ty.pl109_1 Ty.fl109_2) (And.intro Ty.pl109_2 Ty.eq53)) (And.intro (And.intro Ty.eq109 Ty.cb58) (And.intro Ty.cb59 Ty.cb60)))))))
theorem placeL_ok (l : List Grp) (key : Str) (bi : Nat) (own : Option Value) (hl : l.length ≤ big) (hs : SortedG l) :
    Ok Try.prog 37 [ptr bi, vstr key] [(bi, .c [.list own 2 (l.map cGrp), keyFn])] fun v bs rs =>
      bs = [(bi, .c [.list own 2 (l.map cGrp), keyFn])] ∧ rs = [] ∧ ∃ i, i ≤ l.length ∧ (∀ j, (h : j < l.length) → (j < i ↔ less l[j].key key = true)) ∧ v = .tup [vint i, vbool (decide (l[i]?.map (·.key) = some key))] := by
  refine Ok.of_ex Ty.mixed Try.func37 rfl (by simp [Try.ntmps37]) (by kernel_rfl) fun F w0 I0 => ?_
  simp only [↓ruleA0, ↓ruleA1, ↓ruleA2, ruleB0, ruleB1, ruleB2, ruleB3, ruleL, ↓retK, ncall, Todo_eq, packV, eqTB, litB, litV, fitL, fit, veqL, veq, sbin, sun, nilB, cellsV, oneB, okC, vals, fillV, partsE, Int.reduceLE, Int.reduceLT, Int.reduceToNat, Nat.reduceAdd, Nat.reduceEqDiff, Nat.reduceLT, Nat.reduceLeDiff, Nat.reduceMul, Nat.reduceSub, reduceCtorEq, tbAIb3, Try.results37]
  refine fun bp hp => ?_; replace hp := newb hp; try simp only [Nb] at hp
  simp only [↓ruleA0, ↓ruleA1, ↓ruleA2, ruleB0, ruleB1, ruleB2, ruleB3, ruleL, ↓retK, ncall, Todo_eq, packV, eqTB, litB, litV, fitL, fit, veqL, veq, sbin, sun, nilB, cellsV, oneB, okC, vals, fillV, partsE, Int.reduceLE, Int.reduceLT, Int.reduceToNat, Nat.reduceAdd, Nat.reduceEqDiff, Nat.reduceLT, Nat.reduceLeDiff, Nat.reduceMul, Nat.reduceSub, reduceCtorEq, tbAIb3, Try.results37, hp]
  refine OkF_with [_, _] [] (List.Perm.refl _) (bsearchL_ok l key bi bp _ own hl hs hp.1.1) ?_
  rintro v bs rs ⟨rfl, rfl, i, hi, hj, rfl⟩
  simp only [↓ruleA0, ↓ruleA1, ↓ruleA2, ruleB0, ruleB1, ruleB2, ruleB3, ruleL, ↓retK, ncall, Todo_eq, packV, eqTB, litB, litV, fitL, fit, veqL, veq, sbin, sun, nilB, cellsV, oneB, okC, vals, fillV, partsE, Int.reduceLE, Int.reduceLT, Int.reduceToNat, Nat.reduceAdd, Nat.reduceEqDiff, Nat.reduceLT, Nat.reduceLeDiff, Nat.reduceMul, Nat.reduceSub, reduceCtorEq, tbAIb3, Try.results37, hp]
  exact ⟨_, [_], [], Le.refl _, List.Sublist.cons _ (List.Sublist.refl _), List.nil_sublist _, rfl, rfl, i, hi, hj, rfl⟩

theorem inI_take (rows : List Rw) (lo hi : Int) (i : Nat) (h : i < rows.length) : (rows.take (i + 1)).filter (inI lo hi) = (rows.take i).filter (inI lo hi) ++ (if inI lo hi rows[i] = true then [rows[i]] else []) := by
  rw [List.take_succ_eq_append_getElem h, List.filter_append]
  by_cases hx : inI lo hi rows[i] = true <;> simp [hx]
theorem inI_len (rows : List Rw) (lo hi : Int) (i : Nat) : ((rows.take i).filter (inI lo hi)).length ≤ i := by
  have := List.length_filter_le (inI lo hi) (rows.take i)
  simp only [List.length_take] at this
  omega
theorem rowsAt_len {d : List Dlt} (h : fitDs d) (t : Int) : (rowsAt d t).length ≤ big := by
  unfold rowsAt rowsM
  rw [List.length_map]
  exact Nat.le_trans (List.length_filter_le _ _) (Nat.le_trans (consM_len _) (early_fit h t).1)
theorem no_key {l : List Grp} {key : Str} (hs : SortedG l) {i : Nat} (hi : i ≤ l.length) (hj : ∀ j, (h : j < l.length) → (j < i ↔ less l[j].key key = true)) (hn : ¬ l[i]?.map (·.key) = some key) : ∀ g ∈ l, g.key ≠ key := by
  intro g hg e
  obtain ⟨j, hjl, rfl⟩ := List.getElem_of_mem hg
  rcases Nat.lt_or_ge j i with h | h
  · have := (hj j hjl).1 h
    exact less_ne this e
  · rcases Nat.lt_or_ge i j with h' | h'
    · have hil : i < l.length := by omega
      have := (List.pairwise_iff_getElem.1 hs) i j hil hjl h'
      have := (hj i hil).2 (e ▸ this)
      omega
    · obtain rfl : i = j := by omega
      exact hn (by rw [List.getElem?_eq_getElem hjl, Option.map_some, e])
set_option linter.defProp false in
def tbAIb4 := (And.intro (And.intro (And.intro (And.intro (And.intro (And.intro (And.intro Ty.sz3 Ty.by3) (And.intro Ty.ag3 Ty.zr3)) (And.intro (And.intro Ty.un3 Ty.sz4) (And.intro Ty.by4 Ty.ag4))) (And.intro (And.intro (And.intro Ty.zr4 Ty.un4) (And.intro Ty.sz9 Ty.by9)) (And.intro (And.intro Ty.ag9 Ty.zr9) (And.intro Ty.un9 (And.intro Ty.sz22 Ty.by22))))) (And.intro (And.intro (And.intro (And.intro Ty.ag22 Ty.zr22) (And.intro Ty.un22 Ty.sz24)) (And.intro (And.intro Ty.by24 Ty.ag24) (And.intro Ty.zr24 Ty.fl24_0))) (And.intro (And.intro (And.intro Ty.pl24_0 Ty.fl24_1) (And.intro Ty.pl24_1 Ty.sz26)) (And.intro (And.intro Ty.by26 Ty.ag26) (And.intro Ty.zr26 (And.intro Ty.fl26_0 Ty.pl26_0)))))) (And.intro (And.intro (And.intro (And.intro (And.intro Ty.fl26_1 Ty.pl26_1) (And.intro Ty.sz29 Ty.by29)) (And.intro (And.intro Ty.ag29 Ty.zr29) (And.intro Ty.un29 Ty.sz32))) (And.intro (And.intro (And.intro Ty.by32 Ty.ag32) (And.intro Ty.zr32 Ty.un32)) (And.intro (And.intro Ty.sz41 Ty.by41) (And.intro Ty.ag41 (And.intro Ty.zr41 Ty.un41))))) (And.intro (And.intro (And.intro (And.intro Ty.sz53 Ty.by53) (And.intro Ty.ag53 Ty.zr53)) (And.intro (And.intro Ty.fl53_0 Ty.pl53_0) (And.intro Ty.fl53_1 (And.intro Ty.pl53_1 Ty.sz54)))) (And.intro (And.intro (And.intro Ty.by54 Ty.ag54) (And.intro Ty.zr54 Ty.un54)) (And.intro (And.intro Ty.sz56 Ty.by56) (And.intro Ty.ag56 (And.intro Ty.zr56 Ty.fl56_0))))))) (And.intro (And.intro (And.intro (And.intro (And.intro (And.intro Ty.pl56_0 Ty.fl56_1) (And.intro Ty.pl56_1 Ty.fl56_2)) (And.intro (And.intro Ty.pl56_2 Ty.fl56_3) (And.intro Ty.pl56_3 Ty.fl56_4))) (And.intro (And.intro (And.intro Ty.pl56_4 Ty.fl56_5) (And.intro Ty.pl56_5 Ty.fl56_6)) (And.intro (And.intro Ty.pl56_6 Ty.sz61) (And.intro Ty.by61 (And.intro Ty.ag61 Ty.zr61))))) (And.intro (And.intro (And.intro (And.intro Ty.fl61_0 Ty.pl61_0) (And.intro Ty.fl61_1 Ty.pl61_1)) (And.intro (And.intro Ty.fl61_2 Ty.pl61_2) (And.intro Ty.sz65 Ty.by65))) (And.intro (And.intro (And.intro Ty.ag65 Ty.zr65) (And.intro Ty.fl65_0 Ty.pl65_0)) (And.intro (And.intro Ty.fl65_1 Ty.pl65_1) (And.intro Ty.sz68 (And.intro Ty.by68 Ty.ag68)))))) (And.intro (And.intro (And.intro (And.intro (And.intro Ty.zr68 Ty.un68) (And.intro Ty.sz70 Ty.by70)) (And.intro (And.intro Ty.ag70 Ty.sz73) (And.intro Ty.by73 Ty.ag73))) (And.intro (And.intro (And.intro Ty.zr73 Ty.sz75) (And.intro Ty.by75 Ty.ag75)) (And.intro (And.intro Ty.zr75 Ty.fl75_0) (And.intro Ty.pl75_0 (And.intro Ty.fl75_1 Ty.pl75_1))))) (And.intro (And.intro (And.intro (And.intro Ty.sz109 Ty.by109) (And.intro Ty.ag109 Ty.zr109)) (And.intro (And.intro Ty.fl109_0 Ty.pl109_0) (And.intro Ty.fl109_1 (And.intro Ty.pl109_1 Ty.fl109_2)))) (And.intro (And.intro (And.intro Ty.pl109_2 Ty.eq26) (And.intro Ty.eq53 Ty.eq109)) (And.intro (And.intro Ty.cb36 Ty.cb37) (And.intro Ty.cb38 (And.intro Ty.cb58 Ty.cb60))))))))
theorem rowsP_ok (a : Arr) (key : Str) (lo hi t : Int) (ha : fitG a.groups) (hg : GsOk a.groups) : OkP Try.prog 13 [vArr a, vstr key, .agg [vint lo, vint hi], vint t] (vRows2 (rowsA a key lo hi t)) := by
  obtain ⟨s, l⟩ := a
  obtain ⟨hl, hds⟩ := ha
  simp only at hl hds hg
  have hl0 := hl
  unfold big at hl
  refine Ok.of_ex Ty.mixed Try.func13 rfl (by simp [Try.ntmps13]) (by kernel_rfl) fun F w0 I0 => ?_
  simp only [↓ruleA0, ↓ruleA1, ↓ruleA2, ruleB0, ruleB1, ruleB2, ruleB3, ruleL, ↓retK, ncall, Todo_eq, packV, eqTB, litB, litV, fitL, fit, veqL, veq, sbin, sun, nilB, cellsV, oneB, okC, vals, fillV, partsE, Int.reduceLE, Int.reduceLT, Int.reduceToNat, Nat.reduceAdd, Nat.reduceEqDiff, Nat.reduceLT, Nat.reduceLeDiff, Nat.reduceMul, Nat.reduceSub, reduceCtorEq, tbAIb4, Try.results13]
  refine fun b4 h4 => ?_; replace h4 := newb h4; try simp only [Nb] at h4
  simp only [↓ruleA0, ↓ruleA1, ↓ruleA2, ruleB0, ruleB1, ruleB2, ruleB3, ruleL, ↓retK, ncall, Todo_eq, packV, eqTB, litB, litV, fitL, fit, veqL, veq, sbin, sun, nilB, cellsV, oneB, okC, vals, fillV, partsE, Int.reduceLE, Int.reduceLT, Int.reduceToNat, Nat.reduceAdd, Nat.reduceEqDiff, Nat.reduceLT, Nat.reduceLeDiff, Nat.reduceMul, Nat.reduceSub, reduceCtorEq, tbAIb4, Try.results13]
  refine fun b6 h6 => ?_; replace h6 := newb h6; try simp only [Nb] at h6
  simp only [↓ruleA0, ↓ruleA1, ↓ruleA2, ruleB0, ruleB1, ruleB2, ruleB3, ruleL, ↓retK, ncall, Todo_eq, packV, eqTB, litB, litV, fitL, fit, veqL, veq, sbin, sun, nilB, cellsV, oneB, okC, vals, fillV, partsE, Int.reduceLE, Int.reduceLT, Int.reduceToNat, Nat.reduceAdd, Nat.reduceEqDiff, Nat.reduceLT, Nat.reduceLeDiff, Nat.reduceMul, Nat.reduceSub, reduceCtorEq, tbAIb4, Try.results13, h6]
  by_cases ht : t < s
  · simp only [↓ruleA0, ↓ruleA1, ↓ruleA2, ruleB0, ruleB1, ruleB2, ruleB3, ruleL, ↓retK, ncall, Todo_eq, packV, eqTB, litB, litV, fitL, fit, veqL, veq, sbin, sun, nilB, cellsV, oneB, okC, vals, fillV, partsE, Int.reduceLE, Int.reduceLT, Int.reduceToNat, Nat.reduceAdd, Nat.reduceEqDiff, Nat.reduceLT, Nat.reduceLeDiff, Nat.reduceMul, Nat.reduceSub, reduceCtorEq, tbAIb4, Try.results13, h6, ht]
    refine ret_le ?_
    unfold rowsA
    rw [if_pos ht]
    exact Le.two (Le.nil 8) (Le.refl _)
  · simp only [↓ruleA0, ↓ruleA1, ↓ruleA2, ruleB0, ruleB1, ruleB2, ruleB3, ruleL, ↓retK, ncall, Todo_eq, packV, eqTB, litB, litV, fitL, fit, veqL, veq, sbin, sun, nilB, cellsV, oneB, okC, vals, fillV, partsE, Int.reduceLE, Int.reduceLT, Int.reduceToNat, Nat.reduceAdd, Nat.reduceEqDiff, Nat.reduceLT, Nat.reduceLeDiff, Nat.reduceMul, Nat.reduceSub, reduceCtorEq, tbAIb4, Try.results13, h6, ht]
    refine OkF_withN [] _ (List.Perm.refl _) (groupsL_ok l hl0) ?_
    rintro v bs rs ⟨bg, rfl, hcase⟩ hnd
    rcases hcase with ⟨rfl, rfl, rfl⟩ | ⟨y, rfl, rfl⟩
    · simp only [List.map_cons, List.map_nil, List.nodup_cons, List.mem_cons, List.not_mem_nil, or_false, not_or, List.cons_append, List.nil_append] at hnd
      simp only [↓ruleA0, ↓ruleA1, ↓ruleA2, ruleB0, ruleB1, ruleB2, ruleB3, ruleL, ↓retK, ncall, Todo_eq, packV, eqTB, litB, litV, fitL, fit, veqL, veq, sbin, sun, nilB, cellsV, oneB, okC, vals, fillV, partsE, Int.reduceLE, Int.reduceLT, Int.reduceToNat, Nat.reduceAdd, Nat.reduceEqDiff, Nat.reduceLT, Nat.reduceLeDiff, Nat.reduceMul, Nat.reduceSub, reduceCtorEq, tbAIb4, Try.results13, h6, hnd]
      refine OkF_with [_] [_, _] (List.Perm.refl _) (placeNil_ok key bg) ?_
      rintro v bs rs ⟨rfl, rfl, rfl⟩
      simp only [↓ruleA0, ↓ruleA1, ↓ruleA2, ruleB0, ruleB1, ruleB2, ruleB3, ruleL, ↓retK, ncall, Todo_eq, packV, eqTB, litB, litV, fitL, fit, veqL, veq, sbin, sun, nilB, cellsV, oneB, okC, vals, fillV, partsE, Int.reduceLE, Int.reduceLT, Int.reduceToNat, Nat.reduceAdd, Nat.reduceEqDiff, Nat.reduceLT, Nat.reduceLeDiff, Nat.reduceMul, Nat.reduceSub, reduceCtorEq, tbAIb4, Try.results13, h6]
      refine ret_le ?_
      unfold rowsA
      rw [if_neg ht]
      exact Le.two (Le.nil 8) (Le.refl _)
    · simp only [List.map_cons, List.map_nil, List.nodup_cons, List.mem_cons, List.not_mem_nil, or_false, not_or, List.cons_append, List.nil_append] at hnd
      have n1 : bg ≠ b4 ∧ bg ≠ b6 := by simp_all
      simp only [↓ruleA0, ↓ruleA1, ↓ruleA2, ruleB0, ruleB1, ruleB2, ruleB3, ruleL, ↓retK, ncall, Todo_eq, packV, eqTB, litB, litV, fitL, fit, veqL, veq, sbin, sun, nilB, cellsV, oneB, okC, vals, fillV, partsE, Int.reduceLE, Int.reduceLT, Int.reduceToNat, Nat.reduceAdd, Nat.reduceEqDiff, Nat.reduceLT, Nat.reduceLeDiff, Nat.reduceMul, Nat.reduceSub, reduceCtorEq, tbAIb4, Try.results13, h6, n1]
      refine OkF_with [_] [_, _] (List.Perm.refl _) (placeL_ok l key bg (some y) hl0 hg.sorted) ?_
      rintro v bs rs ⟨rfl, rfl, i, hi', hj, rfl⟩
      by_cases hfd : l[i]?.map (·.key) = some key
      · have hil : i < l.length := by
          rcases Nat.lt_or_ge i l.length with h | h
          · exact h
          · rw [List.getElem?_eq_none h] at hfd; cases hfd
        have hkey : l[i].key = key := by rw [List.getElem?_eq_getElem hil] at hfd; simpa using hfd
        have hrk : rowsK ⟨s, l⟩ key lo hi t = (rowsAt l[i].ds t).filter (inI lo hi) := by
          unfold rowsK
          rw [← hkey, part_of hg (List.getElem_mem hil)]
          rfl
        simp only [↓ruleA0, ↓ruleA1, ↓ruleA2, ruleB0, ruleB1, ruleB2, ruleB3, ruleL, ↓retK, ncall, Todo_eq, packV, eqTB, litB, litV, fitL, fit, veqL, veq, sbin, sun, nilB, cellsV, oneB, okC, vals, fillV, partsE, Int.reduceLE, Int.reduceLT, Int.reduceToNat, Nat.reduceAdd, Nat.reduceEqDiff, Nat.reduceLT, Nat.reduceLeDiff, Nat.reduceMul, Nat.reduceSub, reduceCtorEq, tbAIb4, Try.results13, h6, n1, n1.1.symm, n1.2.symm, hfd, Int.ofNat_lt, hil, List.length_map, getD_map]
        have hlen := rowsAt_len (hds _ (List.getElem_mem hil)) t
        unfold big at hlen
        refine OkF_of _ (OkRow.list (at_ok l[i].ds t (hds _ (List.getElem_mem hil)))) ?_
        rw [show rowsM (consM (earlyM l[i].ds t)) = rowsAt l[i].ds t from rfl]
        generalize hR : rowsAt l[i].ds t = R at hlen hrk
        simp only [↓ruleA0, ↓ruleA1, ↓ruleA2, ruleB0, ruleB1, ruleB2, ruleB3, ruleL, ↓retK, ncall, Todo_eq, packV, eqTB, litB, litV, fitL, fit, veqL, veq, sbin, sun, nilB, cellsV, oneB, okC, vals, fillV, partsE, Int.reduceLE, Int.reduceLT, Int.reduceToNat, Nat.reduceAdd, Nat.reduceEqDiff, Nat.reduceLT, Nat.reduceLeDiff, Nat.reduceMul, Nat.reduceSub, reduceCtorEq, tbAIb4, Try.results13, h6, n1, n1.1.symm, n1.2.symm, List.length_map]
        refine AWP.nilRow 8 8 56 (by simp only [↓ruleA0, ↓ruleA1, ↓ruleA2, ruleB0, ruleB1, ruleB2, ruleB3, ruleL, ↓retK, ncall, Todo_eq, packV, eqTB, litB, litV, fitL, fit, veqL, veq, sbin, sun, nilB, cellsV, oneB, okC, vals, fillV, partsE, Int.reduceLE, Int.reduceLT, Int.reduceToNat, Nat.reduceAdd, Nat.reduceEqDiff, Nat.reduceLT, Nat.reduceLeDiff, Nat.reduceMul, Nat.reduceSub, reduceCtorEq, tbAIb4, Try.results13]) (by decide) ?_
        refine EX_forS Ty.mixed (by kernel_rfl) R.length (fun j S => ∃ y2, S.σ 8 = .list (some y2) 8 (((R.take j).filter (inI lo hi)).map cRow) ∧ S.rows = [⟨y2, 8, 56⟩] ∧ S.boxes = [(b6, .c [vint lo, vint hi])] ∧ S.σ 6 = ptr b6 ∧ S.σ 9 = vint 0 ∧ S.σ 39 = vRows R ∧ S.σ 40 = vint R.length ∧ S.σ 41 = vint j) ⟨[_], [_], List.Sublist.cons _ (List.Sublist.cons_cons _ (List.nil_sublist _)), List.Sublist.cons_cons _ (List.nil_sublist _), nilv, ?_⟩ (fun j S hj' ⟨y2, g8, gr, gb, g6, g9, g39, g40, g41⟩ => ?_) (fun S ⟨y2, g8, gr, gb, g6, g9, g39, g40, g41⟩ => ?_)
        · simp only [↓ruleA0, ↓ruleA1, ↓ruleA2, ruleB0, ruleB1, ruleB2, ruleB3, ruleL, ↓retK, ncall, Todo_eq, packV, eqTB, litB, litV, fitL, fit, veqL, veq, sbin, sun, nilB, cellsV, oneB, okC, vals, fillV, partsE, Int.reduceLE, Int.reduceLT, Int.reduceToNat, Nat.reduceAdd, Nat.reduceEqDiff, Nat.reduceLT, Nat.reduceLeDiff, Nat.reduceMul, Nat.reduceSub, reduceCtorEq, tbAIb4, Try.results13, h6, n1]
          try simp
        · have htk := inI_take R lo hi j hj'
          have hln := inI_len R lo hi j
          simp only [↓ruleA0, ↓ruleA1, ↓ruleA2, ruleB0, ruleB1, ruleB2, ruleB3, ruleL, ↓retK, ncall, Todo_eq, packV, eqTB, litB, litV, fitL, fit, veqL, veq, sbin, sun, nilB, cellsV, oneB, okC, vals, fillV, partsE, Int.reduceLE, Int.reduceLT, Int.reduceToNat, Nat.reduceAdd, Nat.reduceEqDiff, Nat.reduceLT, Nat.reduceLeDiff, Nat.reduceMul, Nat.reduceSub, reduceCtorEq, tbAIb4, Try.results13, g8, gr, gb, g6, g9, g39, g40, g41, Int.ofNat_lt, hj', List.length_map, getD_map]
          refine fun b14 h14 => ?_; replace h14 := newb h14; try simp only [Nb] at h14
          by_cases hx1 : lo ≤ R[j].event
          · by_cases hx2 : R[j].event ≤ hi
            · simp only [↓ruleA0, ↓ruleA1, ↓ruleA2, ruleB0, ruleB1, ruleB2, ruleB3, ruleL, ↓retK, ncall, Todo_eq, packV, eqTB, litB, litV, fitL, fit, veqL, veq, sbin, sun, nilB, cellsV, oneB, okC, vals, fillV, partsE, Int.reduceLE, Int.reduceLT, Int.reduceToNat, Nat.reduceAdd, Nat.reduceEqDiff, Nat.reduceLT, Nat.reduceLeDiff, Nat.reduceMul, Nat.reduceSub, reduceCtorEq, tbAIb4, Try.results13, g8, gr, gb, g6, g9, g39, g40, g41, h14, hx1, hx2]
              refine fun y3 => takeRF_2 ?_
              simp only [↓ruleA0, ↓ruleA1, ↓ruleA2, ruleB0, ruleB1, ruleB2, ruleB3, ruleL, ↓retK, ncall, Todo_eq, packV, eqTB, litB, litV, fitL, fit, veqL, veq, sbin, sun, nilB, cellsV, oneB, okC, vals, fillV, partsE, Int.reduceLE, Int.reduceLT, Int.reduceToNat, Nat.reduceAdd, Nat.reduceEqDiff, Nat.reduceLT, Nat.reduceLeDiff, Nat.reduceMul, Nat.reduceSub, reduceCtorEq, tbAIb4, Try.results13, g8, gr, gb, g6, g9, g39, g40, g41, h14, wrap_succ hj' (Nat.le_trans hlen (by decide)), List.length_map]
              refine ⟨(by first | omega | (simp; omega)), fun y4 => ⟨[_], [_], List.Sublist.cons _ (List.Sublist.refl _), List.Sublist.cons_cons _ (List.nil_sublist _), y4, ?_⟩⟩
              simp only [↓ruleA0, ↓ruleA1, ↓ruleA2, ruleB0, ruleB1, ruleB2, ruleB3, ruleL, ↓retK, ncall, Todo_eq, packV, eqTB, litB, litV, fitL, fit, veqL, veq, sbin, sun, nilB, cellsV, oneB, okC, vals, fillV, partsE, Int.reduceLE, Int.reduceLT, Int.reduceToNat, Nat.reduceAdd, Nat.reduceEqDiff, Nat.reduceLT, Nat.reduceLeDiff, Nat.reduceMul, Nat.reduceSub, reduceCtorEq, tbAIb4, Try.results13, g8, gr, gb, g6, g9, g39, g40, g41, h14, wrap_succ hj' (Nat.le_trans hlen (by decide)), List.length_map]
              rw [htk, if_pos (by simp [inI, hx1, hx2]), List.map_append]
              rfl
            · simp only [↓ruleA0, ↓ruleA1, ↓ruleA2, ruleB0, ruleB1, ruleB2, ruleB3, ruleL, ↓retK, ncall, Todo_eq, packV, eqTB, litB, litV, fitL, fit, veqL, veq, sbin, sun, nilB, cellsV, oneB, okC, vals, fillV, partsE, Int.reduceLE, Int.reduceLT, Int.reduceToNat, Nat.reduceAdd, Nat.reduceEqDiff, Nat.reduceLT, Nat.reduceLeDiff, Nat.reduceMul, Nat.reduceSub, reduceCtorEq, tbAIb4, Try.results13, g8, gr, gb, g6, g9, g39, g40, g41, h14, hx1, hx2, wrap_succ hj' (Nat.le_trans hlen (by decide))]
              refine ⟨[_], _, List.Sublist.cons _ (List.Sublist.refl _), List.Sublist.refl _, y2, ?_⟩
              simp only [↓ruleA0, ↓ruleA1, ↓ruleA2, ruleB0, ruleB1, ruleB2, ruleB3, ruleL, ↓retK, ncall, Todo_eq, packV, eqTB, litB, litV, fitL, fit, veqL, veq, sbin, sun, nilB, cellsV, oneB, okC, vals, fillV, partsE, Int.reduceLE, Int.reduceLT, Int.reduceToNat, Nat.reduceAdd, Nat.reduceEqDiff, Nat.reduceLT, Nat.reduceLeDiff, Nat.reduceMul, Nat.reduceSub, reduceCtorEq, tbAIb4, Try.results13, g8, gr, gb, g6, g9, g39, g40, g41, h14, wrap_succ hj' (Nat.le_trans hlen (by decide)), List.length_map]
              rw [htk, if_neg (by simp [inI, hx1, hx2]), List.append_nil]
          · simp only [↓ruleA0, ↓ruleA1, ↓ruleA2, ruleB0, ruleB1, ruleB2, ruleB3, ruleL, ↓retK, ncall, Todo_eq, packV, eqTB, litB, litV, fitL, fit, veqL, veq, sbin, sun, nilB, cellsV, oneB, okC, vals, fillV, partsE, Int.reduceLE, Int.reduceLT, Int.reduceToNat, Nat.reduceAdd, Nat.reduceEqDiff, Nat.reduceLT, Nat.reduceLeDiff, Nat.reduceMul, Nat.reduceSub, reduceCtorEq, tbAIb4, Try.results13, g8, gr, gb, g6, g9, g39, g40, g41, h14, hx1, wrap_succ hj' (Nat.le_trans hlen (by decide))]
            refine ⟨[_], _, List.Sublist.cons _ (List.Sublist.refl _), List.Sublist.refl _, y2, ?_⟩
            simp only [↓ruleA0, ↓ruleA1, ↓ruleA2, ruleB0, ruleB1, ruleB2, ruleB3, ruleL, ↓retK, ncall, Todo_eq, packV, eqTB, litB, litV, fitL, fit, veqL, veq, sbin, sun, nilB, cellsV, oneB, okC, vals, fillV, partsE, Int.reduceLE, Int.reduceLT, Int.reduceToNat, Nat.reduceAdd, Nat.reduceEqDiff, Nat.reduceLT, Nat.reduceLeDiff, Nat.reduceMul, Nat.reduceSub, reduceCtorEq, tbAIb4, Try.results13, g8, gr, gb, g6, g9, g39, g40, g41, h14, wrap_succ hj' (Nat.le_trans hlen (by decide)), List.length_map]
            rw [htk, if_neg (by simp [inI, hx1]), List.append_nil]
        · simp only [↓ruleA0, ↓ruleA1, ↓ruleA2, ruleB0, ruleB1, ruleB2, ruleB3, ruleL, ↓retK, ncall, Todo_eq, packV, eqTB, litB, litV, fitL, fit, veqL, veq, sbin, sun, nilB, cellsV, oneB, okC, vals, fillV, partsE, Int.reduceLE, Int.reduceLT, Int.reduceToNat, Nat.reduceAdd, Nat.reduceEqDiff, Nat.reduceLT, Nat.reduceLeDiff, Nat.reduceMul, Nat.reduceSub, reduceCtorEq, tbAIb4, Try.results13, g8, gr, gb, g6, g9, g39, g40, g41, Int.ofNat_lt, Nat.lt_irrefl, List.length_map]
          rw [List.take_of_length_le (Nat.le_refl _)]
          refine ret_le ?_
          unfold rowsA
          rw [if_neg ht, hrk]
          exact Le.two (Le.list _ _ _) (Le.refl _)
      · have hrk : rowsK ⟨s, l⟩ key lo hi t = [] := by
          unfold rowsK
          rw [part_none hg (no_key hg.sorted hi' hj hfd)]
          rfl
        simp only [↓ruleA0, ↓ruleA1, ↓ruleA2, ruleB0, ruleB1, ruleB2, ruleB3, ruleL, ↓retK, ncall, Todo_eq, packV, eqTB, litB, litV, fitL, fit, veqL, veq, sbin, sun, nilB, cellsV, oneB, okC, vals, fillV, partsE, Int.reduceLE, Int.reduceLT, Int.reduceToNat, Nat.reduceAdd, Nat.reduceEqDiff, Nat.reduceLT, Nat.reduceLeDiff, Nat.reduceMul, Nat.reduceSub, reduceCtorEq, tbAIb4, Try.results13, h6, n1, hfd]
        refine ret_le ?_
        unfold rowsA
        rw [if_neg ht, hrk]
        exact Le.two (Le.nil 8) (Le.refl _)
theorem keysP2_ok (a : Arr) (t : Int) (ha : fitG a.groups) : OkP Try.prog 14 [vArr a, vint t] (vKeys2 (keysA a t)) := by
  refine Ok.norows (keysP_ok a t ha) fun v bs rs ⟨h1, h2⟩ => ⟨vKeys2 (keysA a t), [], [], ?_, List.nil_sublist _, List.nil_sublist _, rfl, rfl, rfl⟩
  unfold keysA
  rcases h2 with ⟨h3, rfl, _⟩ | ⟨h3, y, rfl, _⟩
  · rw [if_pos h3]; exact Le.two (Le.nil 1) (Le.refl _)
  · rw [if_neg h3]; exact Le.two (Le.list _ _ _) (Le.refl _)
end Go.Proofs.Ytopfanlkbepemaa

/- Arrangements: contracts, part o: slices.Insert in the middle. -/
set_option linter.unusedSimpArgs false
set_option maxRecDepth 100000
namespace Go.Proofs.Ytopfanlkbepemaa
open Go.VL Go.Ar Go.Proofs.Ytopfanlkbepemaa

theorem run_overlaps_box {P : Program} (w : World) (tS tR e : TypeId) (ht : P.underlying tS = some (.slice e)) (size : Nat) (hz : ∀ w, (Go.sizeOf e).run P w = .ok size w)
    (a b : Addr) (la ca lb cb : Nat) (hne : a.block ≠ b.block) (tA tB : TypeId) (kA kB : Nat) (hsa : w.shape? a.block = some (tA, kA + 1)) (hsb : w.shape? b.block = some (tB, kB)) (hfb : ∀ o, w.frozen? ⟨b.block, o, none⟩ = false) (hsp : b.spot = none) :
    (Extern.SlicesOverlaps.overlaps #[tS, tS] #[tR] #[.slice (some a) la ca, .slice (some b) lb cb]).run P w = .ok (.bool false) w := by
  have hnb : (a.block != b.block) = true := by simpa using hne
  have hnb' : (a.block == b.block) = false := by simpa using hne
  have hb0 : w.frozen? b = false := by
    have := hfb b.off
    obtain ⟨bb, bo, bs⟩ := b
    simp only at hsp; subst hsp; exact this
  have hb1 := hfb kB
  change Sem.run P (α := Value) (do
    let some t := (#[tS, tS] : Array TypeId)[0]? | stuck "slices.overlaps: no parameter types"
    let .slice elem ← underlying t | stuck "slices.overlaps: slice type expected"
    let size ← sizeOf elem
    match (some a : Option Addr), (some b : Option Addr) with
    | some a, some b =>
      if la = 0 ∨ lb = 0 ∨ size = 0 then pure (Value.bool false)
      else if a.block != b.block && (← frozen a) && (← frozen b) then unsupported .addressObserved
      else do
        if a.block != b.block then do
          noView a; noView b
          if ← mayBeOne a b then return Value.bool ((← choose (.extern "sameAddr.stringBytes" 2)) == 1)
        pure (Value.bool (a.block == b.block && a.off < b.off + lb * size && b.off < a.off + la * size))
    | _, _ => pure (Value.bool false)) w = _
  by_cases h0 : la = 0 ∨ lb = 0 ∨ size = 0
  · simp [run_underlying ht, hz, h0]
  · cases h1 : w.frozen? a <;> cases h2 : w.frozen? { block := a.block, off := kA + 1 } <;>
      simp [run_underlying ht, hz, h0, hnb, hnb', frozen, noView, viewAt, mayBeOne, stringish, shape, Sem.run, hsa, hsb, hb0, hb1, h1, h2]

theorem overlaps_ext (S : St) (cs g : List V) (b o n c : Nat) (own : Option Value) (hb : getB S.boxes b = some cs) (hg : g.length = 2) : ExtV Try.prog S 90 [.list own 2 [g], .lit (.slice (some ⟨b, o, none⟩) n c)] (vbool false) := by
  intro w I xs hH hr
  match xs, hr with
  | [x, y], hr =>
    simp only [V.reps, V.rep, and_true] at hr
    obtain ⟨⟨_, a, ca, rfl, _, hl⟩, rfl⟩ := hr
    obtain ⟨b', o', rfl, hq⟩ := hl.resolve_left (by simp)
    match g, hg, hq with
    | g0 :: gr, _, hq =>
      simp only [V.lies] at hq
      have hq := hq.1
      simp only [V.ats] at hq
      obtain ⟨⟨x0, hc, hI, _⟩, _⟩ := hq
      obtain ⟨arr, e, h1, _, _, h4⟩ := hH.bx _ (getB_mem hb)
      have hne : b' ≠ b := fun h => h4 o' (h ▸ hI)
      have hs : ∃ t k, w.shape? b' = some (t, k + 1) := by
        unfold World.cell? at hc
        unfold World.shape?
        split at hc
        · rename_i c0 e0 f0 h0
          rw [h0]
          simp only [Option.isSome_none, Bool.false_eq_true, if_false] at hc
          have := (Array.getElem?_eq_some_iff.1 hc).1
          exact ⟨e0, c0.size - 1, by simp only [Option.some.injEq, Prod.mk.injEq, true_and]; omega⟩
        · cases hc
      obtain ⟨t, k, hs⟩ := hs
      have hs2 : w.shape? b = some (e, arr.size) := by unfold World.shape?; rw [h1]
      have hf : ∀ o, w.frozen? ⟨b, o, none⟩ = false := fun o => by unfold World.frozen?; rw [h1]; simp
      refine ⟨.bool false, w, ?_, .inl rfl, by simp only [V.rep]⟩
      rw [run_callFunc_extern Try.func90 (by kernel_rfl) (by kernel_rfl) (by kernel_rfl) (e := Extern.SlicesOverlaps.overlaps #[22, 22] #[4]) (by kernel_rfl)]
      have := run_overlaps_box (P := Try.prog) w 22 4 65 (by kernel_rfl) 2 (fun w => by rfl) ⟨b', o', none⟩ ⟨b, o, none⟩ 1 ca n c hne t e k arr.size hs hs2 hf rfl
      simp only [List.length_cons, List.length_nil] at this ⊢
      rw [this]
      rfl
  | [], hr => simp [V.reps] at hr
  | [_], hr => simp [V.reps] at hr
  | _ :: _ :: _ :: _, hr => simp [V.reps] at hr

theorem appZK_box {P : Program} {S : St} {d : Option Nat} {t tx : TypeId} {b o n c : Nat} {kk : IntKind} {j : Int} {K : St → Prop}
    (h : onSome (Todo (P.underlying t)) fun u => sliceOf u fun e => onSome (Todo (P.underlying tx)) fun ux => And2 (Todo (∃ q, ux = .int q)) (onSome (Todo (tsz P e)) fun k => onSome (Todo (tby P e)) fun by_ => onSome (Todo (tzr P e)) fun z => onSome (Todo (getB S.boxes b)) fun cs =>
      And2 (Todo ((0 < by_ ∧ 0 < k ∧ z.length = k ∧ okC (z.map .lit) = true) ∧ 0 < j ∧ o + n * k ≤ cs.length ∧ c < n + j.toNat ∧ (n + j.toNat) * by_ ≤ 140737488355328))
        (Fresh2 (blks S.boxes S.rows) (n + j.toNat) (fun b' c' => K ((S.addBox b' ((cs.drop o).take (n * k) ++ anys ((c' - n) * k))).put d (.lit (.slice (some ⟨b', 0, none⟩) (n + j.toNat) c')))) .mk))) :
    appZK P S d t tx (.lit (.slice (some ⟨b, o, none⟩) n c)) (.lit (.int kk j)) K := by
  refine appZK_int _ _ _ _ _ _ _ _ _ _ _ _ ?_
  simp only [Todo_eq, And2, Fresh2] at h
  revert h
  unfold onSome
  cases P.underlying t with
  | none => exact id
  | some u =>
    cases u <;> simp only [sliceOf] <;> try exact id
    cases P.underlying tx with
    | none => exact id
    | some ux =>
      simp only []
      rintro ⟨h1, h⟩
      refine ⟨h1, ?_⟩
      revert h
      split <;> try exact id
      split <;> try exact id
      split <;> try exact id
      split <;> try exact id
      rintro ⟨⟨q1, q2, q3, q4, q5⟩, h⟩
      exact ⟨q1, q2, q3, q4, q5, h⟩
theorem anys_add (a b : Nat) : anys (a + b) = anys a ++ anys b := by unfold anys; rw [List.replicate_append_replicate]
theorem grow1 (cs g : List V) (i n c' : Nat) (hg : g.length = 2) (hi : i < n) (hcs : n * 2 ≤ cs.length) (hc : n + 1 ≤ c') :
    List.take (i * 2) (List.take (i * 2) cs ++ anys ((c' - i) * 2)) ++ List.take (min 1 (n + 1 - i) * 2) [g].flatten ++ List.drop (i * 2 + min 1 (n + 1 - i) * 2) (List.take (i * 2) cs ++ anys ((c' - i) * 2))
      = List.take (i * 2) cs ++ g ++ anys ((c' - (i + 1)) * 2) := by
  have hA : (List.take (i * 2) cs).length = i * 2 := by rw [List.length_take]; omega
  have hm : min 1 (n + 1 - i) = 1 := by omega
  have hs : (c' - i) * 2 = 2 + (c' - (i + 1)) * 2 := by omega
  rw [hm, List.take_left' hA, show [g].flatten = g by simp, List.take_of_length_le (l := g) (by omega), hs, anys_add, show i * 2 + 1 * 2 = i * 2 + 2 by omega, ← List.drop_drop, List.drop_left' hA, List.drop_left' (anys_len 2)]
theorem grow2 (cs g : List V) (i n c' : Nat) (hg : g.length = 2) (hi : i < n) (hcs : n * 2 ≤ cs.length) (hc : n + 1 ≤ c') :
    List.take ((i + 1) * 2) (List.take (i * 2) cs ++ g ++ anys ((c' - (i + 1)) * 2)) ++ List.take (min (n - i) (n + 1 - (i + 1)) * 2) (List.take ((n - i) * 2) (List.drop (i * 2) cs)) ++ List.drop ((i + 1) * 2 + min (n - i) (n + 1 - (i + 1)) * 2) (List.take (i * 2) cs ++ g ++ anys ((c' - (i + 1)) * 2))
      = List.take (i * 2) cs ++ g ++ List.drop (i * 2) (List.take (n * 2) cs) ++ anys ((c' - (n + 1)) * 2) := by
  have hA : (List.take (i * 2) cs ++ g).length = (i + 1) * 2 := by rw [List.length_append, List.length_take]; omega
  have hm : min (n - i) (n + 1 - (i + 1)) = n - i := by omega
  have hs : (c' - (i + 1)) * 2 = (n - i) * 2 + (c' - (n + 1)) * 2 := by omega
  rw [hm, List.take_left' hA, ← List.drop_drop, List.drop_left' hA, hs, anys_add, List.drop_left' (anys_len _), List.drop_take, show n * 2 - i * 2 = (n - i) * 2 by omega, List.take_take, Nat.min_self]
theorem place2 (cs g : List V) (i n c : Nat) (hg : g.length = 2) (hi : i < n) (hcs : cs.length = c * 2) (hc : n + 1 ≤ c) :
    List.take (i * 2) (List.take ((i + 1) * 2) cs ++ List.take (min (n + 1 - i) (n + 1 - (i + 1)) * 2) (List.take ((n + 1 - i) * 2) (List.drop (i * 2) cs)) ++ List.drop ((i + 1) * 2 + min (n + 1 - i) (n + 1 - (i + 1)) * 2) cs) ++ List.take (min 1 (n + 1 - i) * 2) [g].flatten ++
        List.drop (i * 2 + min 1 (n + 1 - i) * 2) (List.take ((i + 1) * 2) cs ++ List.take (min (n + 1 - i) (n + 1 - (i + 1)) * 2) (List.take ((n + 1 - i) * 2) (List.drop (i * 2) cs)) ++ List.drop ((i + 1) * 2 + min (n + 1 - i) (n + 1 - (i + 1)) * 2) cs)
      = List.take (i * 2) cs ++ g ++ List.drop (i * 2) (List.take (n * 2) cs) ++ List.drop ((n + 1) * 2) cs := by
  have hm : min (n + 1 - i) (n + 1 - (i + 1)) = n - i := by omega
  have hm1 : min 1 (n + 1 - i) = 1 := by omega
  have hA : (List.take ((i + 1) * 2) cs).length = (i + 1) * 2 := by rw [List.length_take]; omega
  rw [hm, hm1, show [g].flatten = g by simp, List.take_of_length_le (l := g) (by omega), List.append_assoc (List.take ((i + 1) * 2) cs), List.take_append_of_le_length (by omega), List.take_take, show min (i * 2) ((i + 1) * 2) = i * 2 by omega, show i * 2 + 1 * 2 = (i + 1) * 2 by omega, List.drop_left' hA, List.take_take, show min ((n - i) * 2) ((n + 1 - i) * 2) = (n - i) * 2 by omega, show (i + 1) * 2 + (n - i) * 2 = (n + 1) * 2 by omega, List.drop_take, show n * 2 - i * 2 = (n - i) * 2 by omega]
  simp only [List.append_assoc]
set_option linter.defProp false in
def tbAGk0 := (And.intro (And.intro (And.intro (And.intro (And.intro (And.intro Ty.sz3 Ty.by3) (And.intro Ty.ag3 (And.intro Ty.zr3 Ty.un3))) (And.intro (And.intro Ty.sz4 (And.intro Ty.by4 Ty.ag4)) (And.intro Ty.zr4 (And.intro Ty.un4 Ty.sz9)))) (And.intro (And.intro (And.intro Ty.by9 Ty.ag9) (And.intro Ty.zr9 (And.intro Ty.un9 Ty.sz22))) (And.intro (And.intro Ty.by22 (And.intro Ty.ag22 Ty.zr22)) (And.intro Ty.un22 (And.intro Ty.sz41 Ty.by41))))) (And.intro (And.intro (And.intro (And.intro Ty.ag41 Ty.zr41) (And.intro Ty.un41 (And.intro Ty.sz53 Ty.by53))) (And.intro (And.intro Ty.ag53 (And.intro Ty.zr53 Ty.fl53_0)) (And.intro Ty.pl53_0 (And.intro Ty.fl53_1 Ty.pl53_1)))) (And.intro (And.intro (And.intro Ty.sz54 Ty.by54) (And.intro Ty.ag54 (And.intro Ty.zr54 Ty.un54))) (And.intro (And.intro Ty.sz56 (And.intro Ty.by56 Ty.ag56)) (And.intro Ty.zr56 (And.intro Ty.fl56_0 Ty.pl56_0)))))) (And.intro (And.intro (And.intro (And.intro (And.intro Ty.fl56_1 Ty.pl56_1) (And.intro Ty.fl56_2 (And.intro Ty.pl56_2 Ty.fl56_3))) (And.intro (And.intro Ty.pl56_3 (And.intro Ty.fl56_4 Ty.pl56_4)) (And.intro Ty.fl56_5 (And.intro Ty.pl56_5 Ty.fl56_6)))) (And.intro (And.intro (And.intro Ty.pl56_6 Ty.sz61) (And.intro Ty.by61 (And.intro Ty.ag61 Ty.zr61))) (And.intro (And.intro Ty.fl61_0 (And.intro Ty.pl61_0 Ty.fl61_1)) (And.intro Ty.pl61_1 (And.intro Ty.fl61_2 Ty.pl61_2))))) (And.intro (And.intro (And.intro (And.intro Ty.sz65 Ty.by65) (And.intro Ty.ag65 (And.intro Ty.zr65 Ty.fl65_0))) (And.intro (And.intro Ty.pl65_0 (And.intro Ty.fl65_1 Ty.pl65_1)) (And.intro Ty.sz109 (And.intro Ty.by109 Ty.ag109)))) (And.intro (And.intro (And.intro Ty.zr109 Ty.fl109_0) (And.intro Ty.pl109_0 (And.intro Ty.fl109_1 Ty.pl109_1))) (And.intro (And.intro Ty.fl109_2 (And.intro Ty.pl109_2 Ty.eq53)) (And.intro Ty.eq109 (And.intro Ty.cb90 Ty.cb91)))))))
theorem insMid_ok (cs : List V) (i n c ba : Nat) (g : List V) (own : Option Value) (hg : g.length = 2) (hcs : cs.length = c * 2) (hi : i < n) (hn : n ≤ c) (hnb : n ≤ big) : Ok Try.prog 77 [.lit (.slice (some ⟨ba, 0, none⟩) n c), vint i, .list own 2 [g]] [(ba, .c cs)] fun v bs rs => rs = [] ∧ ∃ b c' rest, n + 1 ≤ c' ∧ v = .lit (.slice (some ⟨b, 0, none⟩) (n + 1) c') ∧ rest.length = (c' - (n + 1)) * 2 ∧ bs = [(b, .c (cs.take (i * 2) ++ g ++ (cs.take (n * 2)).drop (i * 2) ++ rest))] := by
  unfold big at hnb
  have hne : ¬ (i : Int) = (n : Int) := by omega
  have w1 : IntKind.i64.wrap ((n : Int) + ((1 : Nat) : Int)) = ((n + 1 : Nat) : Int) := by rw [wrap_id (by omega) (by omega)]; rfl
  have w2 : IntKind.i64.wrap ((i : Int) + ((1 : Nat) : Int)) = ((i + 1 : Nat) : Int) := by rw [wrap_id (by omega) (by omega)]; rfl
  have w3 : IntKind.i64.wrap (((n + 1 : Nat) : Int) - (i : Int)) = ((n + 1 - i : Nat) : Int) := by rw [wrap_id (by omega) (by omega)]; omega
  refine Ok.of_ex Ty.mixed Try.func77 rfl (by simp [Try.ntmps77]) (by kernel_rfl) fun F w0 I0 => ?_
  simp only [↓ruleA0, ↓ruleA1, ↓ruleA2, ruleB0, ruleB1, ruleB2, ruleB3, ruleL, ↓retK, ncall, Todo_eq, packV, eqTB, litB, litV, fitL, fit, veqL, veq, sbin, sun, nilB, cellsV, oneB, okC, vals, fillV, partsE, Int.reduceLE, Int.reduceLT, Int.reduceToNat, Nat.reduceAdd, Nat.reduceEqDiff, Nat.reduceLT, Nat.reduceLeDiff, Nat.reduceMul, Nat.reduceSub, reduceCtorEq, tbAGk0, Try.results77]
  refine ⟨by omega, ?_⟩
  simp only [↓ruleA0, ↓ruleA1, ↓ruleA2, ruleB0, ruleB1, ruleB2, ruleB3, ruleL, ↓retK, ncall, Todo_eq, packV, eqTB, litB, litV, fitL, fit, veqL, veq, sbin, sun, nilB, cellsV, oneB, okC, vals, fillV, partsE, Int.reduceLE, Int.reduceLT, Int.reduceToNat, Nat.reduceAdd, Nat.reduceEqDiff, Nat.reduceLT, Nat.reduceLeDiff, Nat.reduceMul, Nat.reduceSub, reduceCtorEq, tbAGk0, Try.results77, show ¬ ((1 : Nat) : Int) = 0 by decide, hne, w1]
  refine ⟨hn, ?_⟩
  by_cases hgr : c < n + 1
  · have hgr' : ((c : Int) < ((n + 1 : Nat) : Int)) := by omega
    have z1 : ¬ c = 0 := by omega
    have z2 : ¬ c = i := by omega
    have z3 : i + (n + 1 - i) = n + 1 := by omega
    have z4 : (0 : Int) < ((n + 1 - i : Nat) : Int) := by omega
    have z5 : i ≤ c := by omega
    have z6 : i * 2 ≤ cs.length := by omega
    have z7 : c < n + 1 := hgr
    have z8 : (n + 1) * 40 ≤ 140737488355328 := by omega
    simp only [↓ruleA0, ↓ruleA1, ↓ruleA2, ruleB0, ruleB1, ruleB2, ruleB3, ruleL, ↓retK, ncall, Todo_eq, packV, eqTB, litB, litV, fitL, fit, veqL, veq, sbin, sun, nilB, cellsV, oneB, okC, vals, fillV, partsE, Int.reduceLE, Int.reduceLT, Int.reduceToNat, Nat.reduceAdd, Nat.reduceEqDiff, Nat.reduceLT, Nat.reduceLeDiff, Nat.reduceMul, Nat.reduceSub, reduceCtorEq, tbAGk0, Try.results77, hgr', w1, w2, w3, z1, z2, z5]
    refine appZK_box ?_
    simp only [↓ruleA0, ↓ruleA1, ↓ruleA2, ruleB0, ruleB1, ruleB2, ruleB3, ruleL, ↓retK, ncall, Todo_eq, packV, eqTB, litB, litV, fitL, fit, veqL, veq, sbin, sun, nilB, cellsV, oneB, okC, vals, fillV, partsE, Int.reduceLE, Int.reduceLT, Int.reduceToNat, Nat.reduceAdd, Nat.reduceEqDiff, Nat.reduceLT, Nat.reduceLeDiff, Nat.reduceMul, Nat.reduceSub, reduceCtorEq, tbAGk0, Try.results77, z3, z4, z6, z7, z8, TypeDesc.int.injEq, exists_eq']
    refine fun b' c' hb hc' => ?_
    replace hb := newb hb
    try simp only [Nb] at hb
    have y1 : ¬ c' = 0 := by omega
    have y2 : ¬ c' = i := by omega
    have y3 : ¬ c' = i + 1 := by omega
    have y4 : i ≤ n + 1 := by omega
    have y5 : i ≤ n := by omega
    have y6 : i + 1 ≤ n + 1 := by omega
    simp only [↓ruleA0, ↓ruleA1, ↓ruleA2, ruleB0, ruleB1, ruleB2, ruleB3, ruleL, ↓retK, ncall, Todo_eq, packV, eqTB, litB, litV, fitL, fit, veqL, veq, sbin, sun, nilB, cellsV, oneB, okC, vals, fillV, partsE, Int.reduceLE, Int.reduceLT, Int.reduceToNat, Nat.reduceAdd, Nat.reduceEqDiff, Nat.reduceLT, Nat.reduceLeDiff, Nat.reduceMul, Nat.reduceSub, reduceCtorEq, tbAGk0, Try.results77, hb, z1, z2, z3, y1, y2, y3, y4, y5, y6, hn, hc', w2]
    have hl0 : (List.take (i * 2) cs ++ anys ((c' - i) * 2)).length = c' * 2 := by rw [List.length_append, List.length_take, anys_len]; omega
    refine ⟨by rw [hl0]; omega, by omega, ?_⟩
    rw [grow1 cs g i n c' hg hi (by omega) hc']
    refine ⟨?_, ?_⟩
    · rw [List.length_append, List.length_append, List.length_take, anys_len, hg]; omega
    · refine ⟨_, [_], [], Le.refl _, List.Sublist.cons_cons _ (List.nil_sublist _), List.nil_sublist _, rfl, b', c', _, hc', rfl, anys_len _, ?_⟩
      rw [grow2 cs g i n c' hg hi (by omega) hc']
  · have hgr' : ¬ ((c : Int) < ((n + 1 : Nat) : Int)) := by omega
    have z1 : ¬ c = 0 := by omega
    have z2 : ¬ c = i := by omega
    have z3 : n + 1 ≤ c := by omega
    have z4 : ¬ c = i + 1 := by omega
    have z5 : i ≤ n := by omega
    simp only [↓ruleA0, ↓ruleA1, ↓ruleA2, ruleB0, ruleB1, ruleB2, ruleB3, ruleL, ↓retK, ncall, Todo_eq, packV, eqTB, litB, litV, fitL, fit, veqL, veq, sbin, sun, nilB, cellsV, oneB, okC, vals, fillV, partsE, Int.reduceLE, Int.reduceLT, Int.reduceToNat, Nat.reduceAdd, Nat.reduceEqDiff, Nat.reduceLT, Nat.reduceLeDiff, Nat.reduceMul, Nat.reduceSub, reduceCtorEq, tbAGk0, Try.results77, hgr', w1, w2, w3, z1, z2, z3, z4, z5]
    refine ExtF_of _ (overlaps_ext _ cs g ba _ _ _ own (by simp only [↓ruleA0, ↓ruleA1, ↓ruleA2, ruleB0, ruleB1, ruleB2, ruleB3, ruleL, ↓retK, ncall, Todo_eq, packV, eqTB, litB, litV, fitL, fit, veqL, veq, sbin, sun, nilB, cellsV, oneB, okC, vals, fillV, partsE, Int.reduceLE, Int.reduceLT, Int.reduceToNat, Nat.reduceAdd, Nat.reduceEqDiff, Nat.reduceLT, Nat.reduceLeDiff, Nat.reduceMul, Nat.reduceSub, reduceCtorEq, tbAGk0, Try.results77]; try rfl) hg) ?_
    simp only [↓ruleA0, ↓ruleA1, ↓ruleA2, ruleB0, ruleB1, ruleB2, ruleB3, ruleL, ↓retK, ncall, Todo_eq, packV, eqTB, litB, litV, fitL, fit, veqL, veq, sbin, sun, nilB, cellsV, oneB, okC, vals, fillV, partsE, Int.reduceLE, Int.reduceLT, Int.reduceToNat, Nat.reduceAdd, Nat.reduceEqDiff, Nat.reduceLT, Nat.reduceLeDiff, Nat.reduceMul, Nat.reduceSub, reduceCtorEq, tbAGk0, Try.results77, w1, w2, w3, z1, z2, z3, z4, z5]
    refine ⟨by omega, by omega, by omega, by omega, ?_⟩
    have hm : min (n + 1 - i) (n + 1 - (i + 1)) = n - i := by omega
    refine ⟨?_, ?_⟩
    · rw [hm]
      simp only [List.length_append, List.length_take, List.length_drop]
      omega
    · refine ⟨_, [_], [], Le.refl _, List.Sublist.refl _, List.nil_sublist _, rfl, ba, c, cs.drop ((n + 1) * 2), z3, rfl, by rw [List.length_drop, hcs]; omega, ?_⟩
      rw [place2 cs g i n c hg hi hcs z3]
end Go.Proofs.Ytopfanlkbepemaa

