/- Merged out of my texts AIx AKf AL. -/
import Derived.Test.YtopfanlkbepemaaKc
import Derived.Test.YtopfanlkbepemaaKb
import Derived.Test.YtopfanlkbepemaaVG
import Derived.Test.YtopfanlkbepemaaRows
import Derived.ProofKit
import Derived.JoinedCond
/- Arrangements: contracts of the reference: All as a box, Advance. -/
set_option linter.unusedSimpArgs false
set_option maxRecDepth 100000
namespace Go.Proofs.Ytopfanlkbepemaa
open Go.VL Go.Ar Go.Proofs.Ytopfanlkbepemaa

set_option linter.defProp false in
def tbAIx0 := (And.intro (And.intro (And.intro (And.intro (And.intro (And.intro Ty.sz3 Ty.by3) (And.intro Ty.ag3 (And.intro Ty.zr3 Ty.un3))) (And.intro (And.intro Ty.sz4 (And.intro Ty.by4 Ty.ag4)) (And.intro Ty.zr4 (And.intro Ty.un4 Ty.sz9)))) (And.intro (And.intro (And.intro Ty.by9 (And.intro Ty.ag9 Ty.zr9)) (And.intro Ty.un9 (And.intro Ty.sz22 Ty.by22))) (And.intro (And.intro Ty.ag22 (And.intro Ty.zr22 Ty.un22)) (And.intro Ty.sz24 (And.intro Ty.by24 Ty.ag24))))) (And.intro (And.intro (And.intro (And.intro Ty.zr24 (And.intro Ty.fl24_0 Ty.pl24_0)) (And.intro Ty.fl24_1 (And.intro Ty.pl24_1 Ty.sz41))) (And.intro (And.intro Ty.by41 (And.intro Ty.ag41 Ty.zr41)) (And.intro Ty.un41 (And.intro Ty.sz53 Ty.by53)))) (And.intro (And.intro (And.intro Ty.ag53 (And.intro Ty.zr53 Ty.fl53_0)) (And.intro Ty.pl53_0 (And.intro Ty.fl53_1 Ty.pl53_1))) (And.intro (And.intro Ty.sz54 (And.intro Ty.by54 Ty.ag54)) (And.intro Ty.zr54 (And.intro Ty.un54 Ty.sz56)))))) (And.intro (And.intro (And.intro (And.intro (And.intro Ty.by56 Ty.ag56) (And.intro Ty.zr56 (And.intro Ty.fl56_0 Ty.pl56_0))) (And.intro (And.intro Ty.fl56_1 (And.intro Ty.pl56_1 Ty.fl56_2)) (And.intro Ty.pl56_2 (And.intro Ty.fl56_3 Ty.pl56_3)))) (And.intro (And.intro (And.intro Ty.fl56_4 (And.intro Ty.pl56_4 Ty.fl56_5)) (And.intro Ty.pl56_5 (And.intro Ty.fl56_6 Ty.pl56_6))) (And.intro (And.intro Ty.sz61 (And.intro Ty.by61 Ty.ag61)) (And.intro Ty.zr61 (And.intro Ty.fl61_0 Ty.pl61_0))))) (And.intro (And.intro (And.intro (And.intro Ty.fl61_1 (And.intro Ty.pl61_1 Ty.fl61_2)) (And.intro Ty.pl61_2 (And.intro Ty.sz65 Ty.by65))) (And.intro (And.intro Ty.ag65 (And.intro Ty.zr65 Ty.fl65_0)) (And.intro Ty.pl65_0 (And.intro Ty.fl65_1 Ty.pl65_1)))) (And.intro (And.intro (And.intro Ty.sz109 (And.intro Ty.by109 Ty.ag109)) (And.intro Ty.zr109 (And.intro Ty.fl109_0 Ty.pl109_0))) (And.intro (And.intro Ty.fl109_1 (And.intro Ty.pl109_1 Ty.fl109_2)) (And.intro Ty.pl109_2 (And.intro Ty.eq53 Ty.eq109)))))))
theorem allB_ok (a : Arr) (hne : ∀ g ∈ a.groups, g.ds ≠ []) (hl : a.groups.length ≤ big) (hn : (allD a.groups).length ≤ big) : Ok Try.prog 48 [vArr a] [] fun v bs rs =>
    rs = [] ∧ ((allD a.groups = [] ∧ v = nilS ∧ bs = []) ∨ ∃ b c, (allD a.groups).length ≤ c ∧ v = .lit (.slice (some ⟨b, 0, none⟩) (allD a.groups).length c) ∧ bs = [(b, .c (((allD a.groups).map cDlt).flatten ++ anys ((c - (allD a.groups).length) * 10)))]) := by
  refine Ok.of_ex Ty.mixed Try.func48 rfl (by simp [Try.ntmps48]) (by kernel_rfl) fun F w0 I0 => ?_
  obtain ⟨s, l⟩ := a
  simp only at hl hn hne
  unfold big at hl hn
  simp only [↓rA, rB, Int.reduceLE, Int.reduceLT, Int.reduceToNat, Nat.reduceAdd, Nat.reduceEqDiff, Nat.reduceLT, Nat.reduceLeDiff, Nat.reduceMul, Nat.reduceSub, reduceCtorEq, tbAIx0, Try.results48]
  refine fun b1 h1 => ?_; replace h1 := newb h1; try simp only [Nb] at h1
  simp only [↓rA, rB, Int.reduceLE, Int.reduceLT, Int.reduceToNat, Nat.reduceAdd, Nat.reduceEqDiff, Nat.reduceLT, Nat.reduceLeDiff, Nat.reduceMul, Nat.reduceSub, reduceCtorEq, tbAIx0, Try.results48]
  refine EX_for Ty.mixed (by kernel_rfl) l.length (fun i S => S.σ 1 = ptr b1 ∧ S.σ 4 = vint i ∧ S.rows = [] ∧ ((i = 0 ∧ S.σ 3 = nilS ∧ S.boxes = [(b1, .c (cArr ⟨s, l⟩))]) ∨ ∃ b c, (allD (l.take i)).length ≤ c ∧ (b ≠ b1 ∧ b1 ≠ b) ∧ S.σ 3 = .lit (.slice (some ⟨b, 0, none⟩) (allD (l.take i)).length c) ∧ S.boxes = [(b, .c (((allD (l.take i)).map cDlt).flatten ++ anys ((c - (allD (l.take i)).length) * 10))), (b1, .c (cArr ⟨s, l⟩))])) ⟨0, ?_⟩ (fun i S hi ⟨g1, g4, gr, hc⟩ => ?_) (fun S ⟨g1, g4, gr, hc⟩ => ?_)
  · simp only [↓rA, rB, Int.reduceLE, Int.reduceLT, Int.reduceToNat, Nat.reduceAdd, Nat.reduceEqDiff, Nat.reduceLT, Nat.reduceLeDiff, Nat.reduceMul, Nat.reduceSub, reduceCtorEq, tbAIx0, Try.results48]
    first | done | exact .inl ⟨rfl, rfl, rfl⟩
  · have hlen := allD_len l i hi
    have hpos : 0 < l[i].ds.length := List.length_pos_iff.2 (hne _ (List.getElem_mem hi))
    have htl : (allD (l.take (i + 1))).length = (allD (l.take i)).length + l[i].ds.length := by rw [allD_take l i hi, List.length_append]
    have hX := cellsD_len (allD (l.take i))
    have hfin : ((allD (l.take (i + 1))).map cDlt).flatten = ((allD (l.take i)).map cDlt).flatten ++ (l[i].ds.map cDlt).flatten := by rw [allD_take l i hi, List.map_append, List.flatten_append]
    rcases hc with ⟨hz, g3, gb⟩ | ⟨b, c, hc, hb, g3, gb⟩
    · have hz' : allD (l.take i) = [] := by subst hz; rfl
      rw [hz', List.length_nil, Nat.zero_add] at htl
      rw [hz', List.map_nil, List.flatten_nil, List.nil_append] at hfin
      simp only [↓rA, rB, Int.reduceLE, Int.reduceLT, Int.reduceToNat, Nat.reduceAdd, Nat.reduceEqDiff, Nat.reduceLT, Nat.reduceLeDiff, Nat.reduceMul, Nat.reduceSub, reduceCtorEq, tbAIx0, Try.results48, g1, g4, gr, g3, gb, Int.ofNat_lt, hi, List.length_map, getD_map, wrap_succ hi (Nat.le_trans hl (by decide))]
      refine Or2.r ?_
      simp only [↓rA, rB, Int.reduceLE, Int.reduceLT, Int.reduceToNat, Nat.reduceAdd, Nat.reduceEqDiff, Nat.reduceLT, Nat.reduceLeDiff, Nat.reduceMul, Nat.reduceSub, reduceCtorEq, tbAIx0, Try.results48, g1, g4, gr, g3, gb, List.length_map]
      refine ⟨⟨hpos, by omega⟩, fun b c hb hc => ?_⟩
      have hbn := newb hb
      simp only [Nb] at hbn
      simp only [↓rA, rB, Int.reduceLE, Int.reduceLT, Int.reduceToNat, Nat.reduceAdd, Nat.reduceEqDiff, Nat.reduceLT, Nat.reduceLeDiff, Nat.reduceMul, Nat.reduceSub, reduceCtorEq, tbAIx0, Try.results48, g1, g4, gr, g3, gb, List.length_map, wrap_succ hi (Nat.le_trans hl (by decide))]
      refine ⟨0, b, c, by rw [htl]; exact hc, ⟨hbn.1.2, hbn.1.1⟩, by rw [htl], ?_⟩
      rw [htl, hfin]
      rfl
    · simp only [↓rA, rB, Int.reduceLE, Int.reduceLT, Int.reduceToNat, Nat.reduceAdd, Nat.reduceEqDiff, Nat.reduceLT, Nat.reduceLeDiff, Nat.reduceMul, Nat.reduceSub, reduceCtorEq, tbAIx0, Try.results48, g1, g4, gr, g3, gb, hb, Int.ofNat_lt, hi, List.length_map, getD_map, wrap_succ hi (Nat.le_trans hl (by decide))]
      refine Or2.r ?_
      simp only [↓rA, rB, Int.reduceLE, Int.reduceLT, Int.reduceToNat, Nat.reduceAdd, Nat.reduceEqDiff, Nat.reduceLT, Nat.reduceLeDiff, Nat.reduceMul, Nat.reduceSub, reduceCtorEq, tbAIx0, Try.results48, g1, g4, gr, g3, gb, hb, List.length_map]
      refine ⟨⟨by rw [List.length_append, hX, anys_length]; omega, hc, by omega⟩, fun b' c' hb' hc' => ?_⟩
      simp only [remB, List.filter_cons, decide_true, Bool.not_true, Bool.false_eq_true, if_false, List.filter_nil, hb, decide_false, Bool.not_false, if_true, List.take_left' hX] at hb' ⊢
      have hbn := newb hb'
      simp only [Nb] at hbn
      simp only [↓rA, rB, Int.reduceLE, Int.reduceLT, Int.reduceToNat, Nat.reduceAdd, Nat.reduceEqDiff, Nat.reduceLT, Nat.reduceLeDiff, Nat.reduceMul, Nat.reduceSub, reduceCtorEq, tbAIx0, Try.results48, g1, g4, gr, g3, gb, hb, List.length_map, wrap_succ hi (Nat.le_trans hl (by decide))]
      refine ⟨0, b', c', by rw [htl]; exact hc', ⟨hbn.1.2, hbn.1.1⟩, by rw [htl], ?_⟩
      rw [htl, hfin]
      simp [remB, hb]
  · rw [List.take_of_length_le (Nat.le_refl _)] at hc
    rcases hc with ⟨h0, g3, gb⟩ | ⟨b, c, hc, hb, g3, gb⟩
    · obtain rfl := List.eq_nil_of_length_eq_zero h0
      simp only [↓rA, rB, Int.reduceLE, Int.reduceLT, Int.reduceToNat, Nat.reduceAdd, Nat.reduceEqDiff, Nat.reduceLT, Nat.reduceLeDiff, Nat.reduceMul, Nat.reduceSub, reduceCtorEq, tbAIx0, Try.results48, g3, gr, g1, g4, gb, Int.ofNat_lt, Nat.lt_irrefl, List.length_map]
      exact ⟨_, [], [], Le.refl _, List.nil_sublist _, List.nil_sublist _, rfl, .inl ⟨rfl, rfl, rfl⟩⟩
    · simp only [↓rA, rB, Int.reduceLE, Int.reduceLT, Int.reduceToNat, Nat.reduceAdd, Nat.reduceEqDiff, Nat.reduceLT, Nat.reduceLeDiff, Nat.reduceMul, Nat.reduceSub, reduceCtorEq, tbAIx0, Try.results48, g3, gr, g1, g4, gb, hb, Int.ofNat_lt, Nat.lt_irrefl, List.length_map]
      exact ⟨_, [_], [], Le.refl _, List.Sublist.cons_cons _ (List.nil_sublist _), List.nil_sublist _, rfl, .inr ⟨b, c, hc, rfl, rfl⟩⟩

set_option linter.defProp false in
def tbAIx1 := (And.intro (And.intro (And.intro (And.intro (And.intro (And.intro Ty.sz3 (And.intro Ty.by3 Ty.ag3)) (And.intro Ty.zr3 (And.intro Ty.un3 Ty.sz4))) (And.intro (And.intro Ty.by4 (And.intro Ty.ag4 Ty.zr4)) (And.intro Ty.un4 (And.intro Ty.sz9 Ty.by9)))) (And.intro (And.intro (And.intro Ty.ag9 (And.intro Ty.zr9 Ty.un9)) (And.intro Ty.sz22 (And.intro Ty.by22 Ty.ag22))) (And.intro (And.intro Ty.zr22 (And.intro Ty.un22 Ty.sz24)) (And.intro (And.intro Ty.by24 Ty.ag24) (And.intro Ty.zr24 Ty.fl24_0))))) (And.intro (And.intro (And.intro (And.intro Ty.pl24_0 (And.intro Ty.fl24_1 Ty.pl24_1)) (And.intro Ty.sz29 (And.intro Ty.by29 Ty.ag29))) (And.intro (And.intro Ty.zr29 (And.intro Ty.un29 Ty.sz41)) (And.intro Ty.by41 (And.intro Ty.ag41 Ty.zr41)))) (And.intro (And.intro (And.intro Ty.un41 (And.intro Ty.sz53 Ty.by53)) (And.intro Ty.ag53 (And.intro Ty.zr53 Ty.fl53_0))) (And.intro (And.intro Ty.pl53_0 (And.intro Ty.fl53_1 Ty.pl53_1)) (And.intro (And.intro Ty.sz54 Ty.by54) (And.intro Ty.ag54 Ty.zr54)))))) (And.intro (And.intro (And.intro (And.intro (And.intro Ty.un54 (And.intro Ty.sz56 Ty.by56)) (And.intro Ty.ag56 (And.intro Ty.zr56 Ty.fl56_0))) (And.intro (And.intro Ty.pl56_0 (And.intro Ty.fl56_1 Ty.pl56_1)) (And.intro Ty.fl56_2 (And.intro Ty.pl56_2 Ty.fl56_3)))) (And.intro (And.intro (And.intro Ty.pl56_3 (And.intro Ty.fl56_4 Ty.pl56_4)) (And.intro Ty.fl56_5 (And.intro Ty.pl56_5 Ty.fl56_6))) (And.intro (And.intro Ty.pl56_6 (And.intro Ty.sz61 Ty.by61)) (And.intro (And.intro Ty.ag61 Ty.zr61) (And.intro Ty.fl61_0 Ty.pl61_0))))) (And.intro (And.intro (And.intro (And.intro Ty.fl61_1 (And.intro Ty.pl61_1 Ty.fl61_2)) (And.intro Ty.pl61_2 (And.intro Ty.sz65 Ty.by65))) (And.intro (And.intro Ty.ag65 (And.intro Ty.zr65 Ty.fl65_0)) (And.intro (And.intro Ty.pl65_0 Ty.fl65_1) (And.intro Ty.pl65_1 Ty.sz109)))) (And.intro (And.intro (And.intro Ty.by109 (And.intro Ty.ag109 Ty.zr109)) (And.intro Ty.fl109_0 (And.intro Ty.pl109_0 Ty.fl109_1))) (And.intro (And.intro Ty.pl109_1 (And.intro Ty.fl109_2 Ty.pl109_2)) (And.intro (And.intro Ty.eq53 Ty.eq109) (And.intro Ty.cb46 Ty.cb48)))))))
theorem adv22_ok (a : Arr) (s : Int) (ha : fitA a) (hne : ∀ g ∈ a.groups, g.ds ≠ []) : OkP Try.prog 32 [vArr a, vint s] (vRes (advA a s)) := by
  have hda : (allD a.groups).length ≤ 4194304 := ha.2.1
  refine Ok.of_ex Ty.mixed Try.func32 rfl (by simp [Try.ntmps32]) (by kernel_rfl) fun F w0 I0 => ?_
  simp only [↓rA, rB, Int.reduceLE, Int.reduceLT, Int.reduceToNat, Nat.reduceAdd, Nat.reduceEqDiff, Nat.reduceLT, Nat.reduceLeDiff, Nat.reduceMul, Nat.reduceSub, reduceCtorEq, tbAIx1, Try.results32]
  refine fun b2 h2 => ?_; replace h2 := newb h2; try simp only [Nb] at h2
  simp only [↓rA, rB, Int.reduceLE, Int.reduceLT, Int.reduceToNat, Nat.reduceAdd, Nat.reduceEqDiff, Nat.reduceLT, Nat.reduceLeDiff, Nat.reduceMul, Nat.reduceSub, reduceCtorEq, tbAIx1, Try.results32]
  refine fun b4 h4 => ?_; replace h4 := newb h4; try simp only [Nb] at h4
  by_cases h1 : maxT < s
  · simp only [↓rA, rB, Int.reduceLE, Int.reduceLT, Int.reduceToNat, Nat.reduceAdd, Nat.reduceEqDiff, Nat.reduceLT, Nat.reduceLeDiff, Nat.reduceMul, Nat.reduceSub, reduceCtorEq, tbAIx1, Try.results32, h2, h4, h1]
    refine ret_le ?_
    unfold advA
    rw [if_pos h1]
    exact Le.two (Le.arr0 _) (Le.refl _)
  · by_cases h3 : s < a.since
    · simp only [↓rA, rB, Int.reduceLE, Int.reduceLT, Int.reduceToNat, Nat.reduceAdd, Nat.reduceEqDiff, Nat.reduceLT, Nat.reduceLeDiff, Nat.reduceMul, Nat.reduceSub, reduceCtorEq, tbAIx1, Try.results32, h2, h4, h1, h3]
      refine ret_le ?_
      unfold advA
      rw [if_neg h1, if_pos h3]
      exact Le.two (Le.arr0 _) (Le.refl _)
    · simp only [↓rA, rB, Int.reduceLE, Int.reduceLT, Int.reduceToNat, Nat.reduceAdd, Nat.reduceEqDiff, Nat.reduceLT, Nat.reduceLeDiff, Nat.reduceMul, Nat.reduceSub, reduceCtorEq, tbAIx1, Try.results32, h2, h4, h1, h3]
      refine OkF_withN [] _ (List.Perm.refl _) (allB_ok a hne ha.1 ha.2.1) ?_
      rintro v bs rs ⟨rfl, hv⟩ hnd
      rcases hv with ⟨hD, rfl, rfl⟩ | ⟨be, c, hc, rfl, rfl⟩
      · clear hnd
        simp only [↓rA, rB, Int.reduceLE, Int.reduceLT, Int.reduceToNat, Nat.reduceAdd, Nat.reduceEqDiff, Nat.reduceLT, Nat.reduceLeDiff, Nat.reduceMul, Nat.reduceSub, reduceCtorEq, tbAIx1, Try.results32, h2, h4, h1, h3]
        refine EX_for Ty.mixed (by kernel_rfl) 0 (fun i S => S.boxes = [(b4, .c [vint 0, nilS]), (b2, .c (cArr a))] ∧ S.rows = [] ∧ S.σ 1 = vint s ∧ S.σ 4 = ptr b4 ∧ S.σ 6 = nilS ∧ S.σ 7 = vint i) ⟨0, ?_⟩ (fun i S hi => absurd hi (Nat.not_lt_zero i)) (fun S ⟨gb, gr, g1, g4, g6, g7⟩ => ?_)
        · simp only [↓rA, rB, Int.reduceLE, Int.reduceLT, Int.reduceToNat, Nat.reduceAdd, Nat.reduceEqDiff, Nat.reduceLT, Nat.reduceLeDiff, Nat.reduceMul, Nat.reduceSub, reduceCtorEq, tbAIx1, Try.results32, h2, h4]
        · simp only [↓rA, rB, Int.reduceLE, Int.reduceLT, Int.reduceToNat, Nat.reduceAdd, Nat.reduceEqDiff, Nat.reduceLT, Nat.reduceLeDiff, Nat.reduceMul, Nat.reduceSub, reduceCtorEq, tbAIx1, Try.results32, gb, gr, g1, g4, g6, g7, h2, h4]
          refine OkF_le (.cons (Le.refl _) (.cons (Le.nil 10) .nil)) _ (of20_ok s [] (Nat.zero_le _) (fun x hx => by cases hx)) ?_
          simp only [↓rA, rB, Int.reduceLE, Int.reduceLT, Int.reduceToNat, Nat.reduceAdd, Nat.reduceEqDiff, Nat.reduceLT, Nat.reduceLeDiff, Nat.reduceMul, Nat.reduceSub, reduceCtorEq, tbAIx1, Try.results32, g4, h2, h4]
          refine ret_le ?_
          unfold advA
          rw [if_neg h1, if_neg h3, hD]
          exact Le.refl _
      · simp only [List.map_cons, List.map_nil, List.nodup_cons, List.mem_cons, List.not_mem_nil, or_false, not_or, List.cons_append, List.nil_append] at hnd
        have m1 : be ≠ b4 := hnd.1.1
        have m2 : be ≠ b2 := hnd.1.2
        generalize hD : allD a.groups = D at hda hc
        have hDf : fitDs D := hD ▸ ha.2
        simp only [↓rA, rB, Int.reduceLE, Int.reduceLT, Int.reduceToNat, Nat.reduceAdd, Nat.reduceEqDiff, Nat.reduceLT, Nat.reduceLeDiff, Nat.reduceMul, Nat.reduceSub, reduceCtorEq, tbAIx1, Try.results32, h2, h4, h1, h3, m1, m2, Ne.symm m1, Ne.symm m2]
        refine EX_for Ty.mixed (by kernel_rfl) D.length (fun i S => S.boxes = [(be, .c (((advI s D i).map cDlt).flatten ++ anys ((c - D.length) * 10))), (b4, .c [vint 0, nilS]), (b2, .c (cArr a))] ∧ S.rows = [] ∧ S.σ 1 = vint s ∧ S.σ 4 = ptr b4 ∧ S.σ 6 = .lit (.slice (some ⟨be, 0, none⟩) D.length c) ∧ S.σ 7 = vint i) ⟨0, ?_⟩ (fun i S hi ⟨gb, gr, g1, g4, g6, g7⟩ => ?_) (fun S ⟨gb, gr, g1, g4, g6, g7⟩ => ?_)
        · simp only [↓rA, rB, Int.reduceLE, Int.reduceLT, Int.reduceToNat, Nat.reduceAdd, Nat.reduceEqDiff, Nat.reduceLT, Nat.reduceLeDiff, Nat.reduceMul, Nat.reduceSub, reduceCtorEq, tbAIx1, Try.results32, h2, h4, advI_zero]
          try simp [advI_zero]
        · obtain ⟨A, B, hA, e1, e2⟩ := adv_cells s D i hi (anys ((c - D.length) * 10))
          rw [e1] at gb
          simp only [↓rA, rB, Int.reduceLE, Int.reduceLT, Int.reduceToNat, Nat.reduceAdd, Nat.reduceEqDiff, Nat.reduceLT, Nat.reduceLeDiff, Nat.reduceMul, Nat.reduceSub, reduceCtorEq, tbAIx1, Try.results32, gb, gr, g1, g4, g6, g7, h2, h4, m1, m2, Ne.symm m1, Ne.symm m2, Int.ofNat_lt, hi, cut8 hA, cut8' hA, cut9 hA, wrap_succ hi (Nat.le_trans hda (by decide))]
          refine ⟨by rw [List.length_append, hA]; simp only [List.length_cons]; omega, 0, ?_⟩
          have hmax : (if s > D[i].tick then s else D[i].tick) = max D[i].tick s := by split <;> omega
          rw [hmax, e2]
          simp
        · rw [advI_all] at gb
          simp only [↓rA, rB, Int.reduceLE, Int.reduceLT, Int.reduceToNat, Nat.reduceAdd, Nat.reduceEqDiff, Nat.reduceLT, Nat.reduceLeDiff, Nat.reduceMul, Nat.reduceSub, reduceCtorEq, tbAIx1, Try.results32, gb, gr, g1, g4, g6, g7, h2, h4, m1, m2, Ne.symm m1, Ne.symm m2, Int.ofNat_lt, Nat.lt_irrefl]
          refine OkF_with [_] [_, _] (List.Perm.refl _) (Ok.consume (n := D.length) (c := c) (k := 10) (es := (advD s D).map cDlt) ⟨?_, ?_, ?_, hc⟩ (.cons (.same _) (.cons .here .nil)) (Ok.le (.cons (Le.refl _) (.cons (Le.list _ _ _) .nil)) (of20_ok s (advD s D) (hDf.adv s).1 (hDf.adv s).okF))) ?_
          · rw [List.take_left' (by rw [cellsD_len, advD_len])]
          · intro e he
            obtain ⟨x, _, rfl⟩ := List.mem_map.1 he
            rfl
          · rw [List.length_map, advD_len]
          rintro v bs rs ⟨rfl, rfl, rfl⟩
          simp only [↓rA, rB, Int.reduceLE, Int.reduceLT, Int.reduceToNat, Nat.reduceAdd, Nat.reduceEqDiff, Nat.reduceLT, Nat.reduceLeDiff, Nat.reduceMul, Nat.reduceSub, reduceCtorEq, tbAIx1, Try.results32, g4, h2, h4]
          refine ret_le ?_
          unfold advA
          rw [if_neg h1, if_neg h3, hD]
          exact Le.refl _
end Go.Proofs.Ytopfanlkbepemaa

/- Arrangements: ArrangeMatchesBuild. -/
set_option linter.unusedSimpArgs false
set_option maxRecDepth 100000
namespace Go.Proofs.Ytopfanlkbepemaa
open Go.VL Go.Ar Go.Proofs.Ytopfanlkbepemaa

theorem same_self' (a : Arr) (ha : fitA a) : OkP Try.prog 18 [vArr a, vArr a] (vbool true) := by
  have := same_ok a a ha.okGs
  rwa [decide_eq_true rfl] at this
theorem ins_fit {a : Arr} {d : List Dlt} (h : fitDs (allD a.groups ++ d)) : fitA (insA a d).1 := by
  unfold insA
  split
  · exact fit_arr0
  · exact fit_of h
theorem adv_fit {a : Arr} (ha : fitA a) (s : Int) : fitA (advA a s).1 := by
  unfold advA
  split
  · exact fit_arr0
  · split
    · exact fit_arr0
    · exact fit_of (ha.2.adv s)
set_option linter.defProp false in
def tbAKf0 := (And.intro (And.intro (And.intro (And.intro (And.intro (And.intro Ty.sz3 (And.intro Ty.by3 Ty.ag3)) (And.intro (And.intro Ty.zr3 Ty.un3) (And.intro Ty.sz4 Ty.by4))) (And.intro (And.intro Ty.ag4 (And.intro Ty.zr4 Ty.un4)) (And.intro (And.intro Ty.sz9 Ty.by9) (And.intro Ty.ag9 Ty.zr9)))) (And.intro (And.intro (And.intro Ty.un9 (And.intro Ty.sz22 Ty.by22)) (And.intro (And.intro Ty.ag22 Ty.zr22) (And.intro Ty.un22 Ty.sz24))) (And.intro (And.intro Ty.by24 (And.intro Ty.ag24 Ty.zr24)) (And.intro (And.intro Ty.fl24_0 Ty.pl24_0) (And.intro Ty.fl24_1 Ty.pl24_1))))) (And.intro (And.intro (And.intro (And.intro Ty.sz29 (And.intro Ty.by29 Ty.ag29)) (And.intro (And.intro Ty.zr29 Ty.un29) (And.intro Ty.sz30 Ty.by30))) (And.intro (And.intro Ty.ag30 (And.intro Ty.sz41 Ty.by41)) (And.intro (And.intro Ty.ag41 Ty.zr41) (And.intro Ty.un41 Ty.sz53)))) (And.intro (And.intro (And.intro Ty.by53 (And.intro Ty.ag53 Ty.zr53)) (And.intro (And.intro Ty.fl53_0 Ty.pl53_0) (And.intro Ty.fl53_1 Ty.pl53_1))) (And.intro (And.intro Ty.sz54 (And.intro Ty.by54 Ty.ag54)) (And.intro (And.intro Ty.zr54 Ty.un54) (And.intro Ty.sz56 Ty.by56)))))) (And.intro (And.intro (And.intro (And.intro (And.intro Ty.ag56 (And.intro Ty.zr56 Ty.fl56_0)) (And.intro (And.intro Ty.pl56_0 Ty.fl56_1) (And.intro Ty.pl56_1 Ty.fl56_2))) (And.intro (And.intro Ty.pl56_2 (And.intro Ty.fl56_3 Ty.pl56_3)) (And.intro (And.intro Ty.fl56_4 Ty.pl56_4) (And.intro Ty.fl56_5 Ty.pl56_5)))) (And.intro (And.intro (And.intro Ty.fl56_6 (And.intro Ty.pl56_6 Ty.sz61)) (And.intro (And.intro Ty.by61 Ty.ag61) (And.intro Ty.zr61 Ty.fl61_0))) (And.intro (And.intro Ty.pl61_0 (And.intro Ty.fl61_1 Ty.pl61_1)) (And.intro (And.intro Ty.fl61_2 Ty.pl61_2) (And.intro Ty.sz65 Ty.by65))))) (And.intro (And.intro (And.intro (And.intro Ty.ag65 (And.intro Ty.zr65 Ty.fl65_0)) (And.intro (And.intro Ty.pl65_0 Ty.fl65_1) (And.intro Ty.pl65_1 Ty.sz109))) (And.intro (And.intro Ty.by109 (And.intro Ty.ag109 Ty.zr109)) (And.intro (And.intro Ty.fl109_0 Ty.pl109_0) (And.intro Ty.fl109_1 Ty.pl109_1)))) (And.intro (And.intro (And.intro Ty.fl109_2 (And.intro Ty.pl109_2 Ty.eq53)) (And.intro (And.intro Ty.eq109 Ty.cb10) (And.intro Ty.cb12 Ty.cb17))) (And.intro (And.intro (And.intro Ty.cb18 Ty.cb26) (And.intro Ty.cb27 Ty.cb28)) (And.intro (And.intro Ty.cb29 Ty.cb30) (And.intro Ty.cb31 Ty.cb32)))))))
set_option maxHeartbeats 1000000 in
theorem build_ok (a : Arr) (d : List Dlt) (since : Int) (ha : fitA a) (hd : fitDs d) : OkP Try.prog 8 [vArr a, vDlts d, vint since] (vbool true) := by
  refine Ok.of_ex Ty.mixed Try.func8 rfl (by simp [Try.ntmps8]) (by kernel_rfl) fun F w0 I0 => ?_
  simp only [↓rA, rB, Int.reduceLE, Int.reduceLT, Int.reduceToNat, Nat.reduceAdd, Nat.reduceEqDiff, Nat.reduceLT, Nat.reduceLeDiff, Nat.reduceMul, Nat.reduceSub, reduceCtorEq, tbAKf0, Try.results8]
  refine fun b3 h3 => ?_; replace h3 := newb h3; try simp only [Nb] at h3
  simp only [↓rA, rB, Int.reduceLE, Int.reduceLT, Int.reduceToNat, Nat.reduceAdd, Nat.reduceEqDiff, Nat.reduceLT, Nat.reduceLeDiff, Nat.reduceMul, Nat.reduceSub, reduceCtorEq, tbAKf0, Try.results8, h3]
  refine OkF_of _ example_ok ?_
  simp only [↓rA, rB, Int.reduceLE, Int.reduceLT, Int.reduceToNat, Nat.reduceAdd, Nat.reduceEqDiff, Nat.reduceLT, Nat.reduceLeDiff, Nat.reduceMul, Nat.reduceSub, reduceCtorEq, tbAKf0, Try.results8, h3]
  refine OkF_of _ (few_ok a d ha hd.1) ?_
  cases hf : fewM a d
  · simp only [↓rA, rB, Int.reduceLE, Int.reduceLT, Int.reduceToNat, Nat.reduceAdd, Nat.reduceEqDiff, Nat.reduceLT, Nat.reduceLeDiff, Nat.reduceMul, Nat.reduceSub, reduceCtorEq, tbAKf0, Try.results8, h3]
    exact ret_done rfl
  simp only [↓rA, rB, Int.reduceLE, Int.reduceLT, Int.reduceToNat, Nat.reduceAdd, Nat.reduceEqDiff, Nat.reduceLT, Nat.reduceLeDiff, Nat.reduceMul, Nat.reduceSub, reduceCtorEq, tbAKf0, Try.results8, h3]
  have hc1 := check27_ok a ha
  have hc2 := check22_ok a ha
  generalize hcd : checkM a = cd at hc1 hc2
  refine CallV_of _ hc1.v ?_
  simp only [↓rA, rB, Int.reduceLE, Int.reduceLT, Int.reduceToNat, Nat.reduceAdd, Nat.reduceEqDiff, Nat.reduceLT, Nat.reduceLeDiff, Nat.reduceMul, Nat.reduceSub, reduceCtorEq, tbAKf0, Try.results8, h3]
  refine CallV_of _ hc2.v ?_
  simp only [↓rA, rB, Int.reduceLE, Int.reduceLT, Int.reduceToNat, Nat.reduceAdd, Nat.reduceEqDiff, Nat.reduceLT, Nat.reduceLeDiff, Nat.reduceMul, Nat.reduceSub, reduceCtorEq, tbAKf0, Try.results8, h3]
  refine CallV_of _ (newP_ok since).v ?_
  simp only [↓rA, rB, Int.reduceLE, Int.reduceLT, Int.reduceToNat, Nat.reduceAdd, Nat.reduceEqDiff, Nat.reduceLT, Nat.reduceLeDiff, Nat.reduceMul, Nat.reduceSub, reduceCtorEq, tbAKf0, Try.results8, h3]
  refine CallV_of _ (new20_ok since).v ?_
  simp only [↓rA, rB, Int.reduceLE, Int.reduceLT, Int.reduceToNat, Nat.reduceAdd, Nat.reduceEqDiff, Nat.reduceLT, Nat.reduceLeDiff, Nat.reduceMul, Nat.reduceSub, reduceCtorEq, tbAKf0, Try.results8, h3]
  refine CallV_of _ (same_self' ⟨since, []⟩ (fit_nil since)).v ?_
  simp only [↓rA, rB, Int.reduceLE, Int.reduceLT, Int.reduceToNat, Nat.reduceAdd, Nat.reduceEqDiff, Nat.reduceLT, Nat.reduceLeDiff, Nat.reduceMul, Nat.reduceSub, reduceCtorEq, tbAKf0, Try.results8, h3]
  refine OkF_of _ hc2 ?_
  by_cases h0 : cd = 0
  · subst h0
    have hr : rightM a d = true := by unfold rightM; rw [hf, hcd]; rfl
    have hv := right_valid ha hr
    have hfew := right_few hr
    have hfa : fitDs (allD a.groups ++ d) := fit_append ha hd (by omega)
    have hI1 := insP_ok a d ha hfa
    have hI2 := ins22_ok a d ha hfa
    have hA1 := advP_ok a since ha
    have hA2 := adv22_ok a since ha fun g hg => (hv.gs.grp g hg).ne
    have hxf := ins_fit hfa
    have hyf := adv_fit ha since
    generalize insA a d = px at hI1 hI2 hxf
    generalize advA a since = py at hA1 hA2 hyf
    obtain ⟨x, e⟩ := px
    obtain ⟨y, f⟩ := py
    simp only [↓rA, rB, Int.reduceLE, Int.reduceLT, Int.reduceToNat, Nat.reduceAdd, Nat.reduceEqDiff, Nat.reduceLT, Nat.reduceLeDiff, Nat.reduceMul, Nat.reduceSub, reduceCtorEq, tbAKf0, Try.results8, h3]
    refine OkF_of _ hI1 ?_
    simp only [↓rA, rB, Int.reduceLE, Int.reduceLT, Int.reduceToNat, Nat.reduceAdd, Nat.reduceEqDiff, Nat.reduceLT, Nat.reduceLeDiff, Nat.reduceMul, Nat.reduceSub, reduceCtorEq, tbAKf0, Try.results8, h3]
    refine fun b8 h8 => ?_; replace h8 := newb h8; try simp only [Nb] at h8
    simp only [↓rA, rB, Int.reduceLE, Int.reduceLT, Int.reduceToNat, Nat.reduceAdd, Nat.reduceEqDiff, Nat.reduceLT, Nat.reduceLeDiff, Nat.reduceMul, Nat.reduceSub, reduceCtorEq, tbAKf0, Try.results8, h3, h8]
    refine OkF_of _ hI2 ?_
    simp only [↓rA, rB, Int.reduceLE, Int.reduceLT, Int.reduceToNat, Nat.reduceAdd, Nat.reduceEqDiff, Nat.reduceLT, Nat.reduceLeDiff, Nat.reduceMul, Nat.reduceSub, reduceCtorEq, tbAKf0, Try.results8, h3, h8]
    refine fun b10 h10 => ?_; replace h10 := newb h10; try simp only [Nb] at h10
    simp only [↓rA, rB, Int.reduceLE, Int.reduceLT, Int.reduceToNat, Nat.reduceAdd, Nat.reduceEqDiff, Nat.reduceLT, Nat.reduceLeDiff, Nat.reduceMul, Nat.reduceSub, reduceCtorEq, tbAKf0, Try.results8, h3, h8, h10]
    refine OkF_of _ hA1 ?_
    simp only [↓rA, rB, Int.reduceLE, Int.reduceLT, Int.reduceToNat, Nat.reduceAdd, Nat.reduceEqDiff, Nat.reduceLT, Nat.reduceLeDiff, Nat.reduceMul, Nat.reduceSub, reduceCtorEq, tbAKf0, Try.results8, h3, h8, h10]
    refine fun b12 h12 => ?_; replace h12 := newb h12; try simp only [Nb] at h12
    simp only [↓rA, rB, Int.reduceLE, Int.reduceLT, Int.reduceToNat, Nat.reduceAdd, Nat.reduceEqDiff, Nat.reduceLT, Nat.reduceLeDiff, Nat.reduceMul, Nat.reduceSub, reduceCtorEq, tbAKf0, Try.results8, h3, h8, h10, h12]
    refine OkF_of _ hA2 ?_
    simp only [↓rA, rB, Int.reduceLE, Int.reduceLT, Int.reduceToNat, Nat.reduceAdd, Nat.reduceEqDiff, Nat.reduceLT, Nat.reduceLeDiff, Nat.reduceMul, Nat.reduceSub, reduceCtorEq, tbAKf0, Try.results8, h3, h8, h10, h12]
    refine fun b14 h14 => ?_; replace h14 := newb h14; try simp only [Nb] at h14
    simp only [↓rA, rB, Int.reduceLE, Int.reduceLT, Int.reduceToNat, Nat.reduceAdd, Nat.reduceEqDiff, Nat.reduceLT, Nat.reduceLeDiff, Nat.reduceMul, Nat.reduceSub, reduceCtorEq, tbAKf0, Try.results8, h3, h8, h10, h12, h14]
    refine OkF_of _ (same_self' x hxf) ?_
    simp only [↓rA, rB, Int.reduceLE, Int.reduceLT, Int.reduceToNat, Nat.reduceAdd, Nat.reduceEqDiff, Nat.reduceLT, Nat.reduceLeDiff, Nat.reduceMul, Nat.reduceSub, reduceCtorEq, tbAKf0, Try.results8, h3, h8, h10, h12, h14]
    refine OkF_of _ (same_self' y hyf) ?_
    simp only [↓rA, rB, Int.reduceLE, Int.reduceLT, Int.reduceToNat, Nat.reduceAdd, Nat.reduceEqDiff, Nat.reduceLT, Nat.reduceLeDiff, Nat.reduceMul, Nat.reduceSub, reduceCtorEq, tbAKf0, Try.results8, h3, h8, h10, h12, h14]
    exact ret_done rfl
  · simp only [↓rA, rB, Int.reduceLE, Int.reduceLT, Int.reduceToNat, Nat.reduceAdd, Nat.reduceEqDiff, Nat.reduceLT, Nat.reduceLeDiff, Nat.reduceMul, Nat.reduceSub, reduceCtorEq, tbAKf0, Try.results8, h3, h0]
    exact ret_done rfl
end Go.Proofs.Ytopfanlkbepemaa

/- Arrangements: what comes in: arrangements, differences, identifiers out of typed cells; how much they hold. -/
set_option linter.unusedSimpArgs false
set_option maxRecDepth 100000
namespace Go.Proofs.Ytopfanlkbepemaa
open Go.VL Go.Ar Go.Proofs.Ytopfanlkbepemaa

theorem LeL_ats {w : World} {I : Cells} {b : Nat} : ∀ {l l' : List V} {o : Nat}, LeL l l' → V.ats w I l b o → V.ats w I l' b o
  | _, _, _, .nil, _ => by simp only [V.ats]
  | _, _, o, .cons h r, ha => by
    simp only [V.ats] at ha ⊢
    obtain ⟨⟨x, h1, h2, h3, h4⟩, h5⟩ := ha
    exact ⟨⟨x, h1, h2, h3, h w I x h4⟩, LeL_ats r h5⟩
theorem LeL_len : ∀ {l l' : List V}, LeL l l' → l.length = l'.length
  | _, _, .nil => rfl
  | _, _, .cons _ r => by simp [LeL_len r]
inductive LeLL : List (List V) → List (List V) → Prop
  | nil : LeLL [] []
  | cons {e e' : List V} {l l' : List (List V)} (h : LeL e e') (r : LeLL l l') : LeLL (e :: l) (e' :: l')
theorem LeLL.len : ∀ {l l' : List (List V)}, LeLL l l' → l.length = l'.length
  | _, _, .nil => rfl
  | _, _, .cons _ r => by simp [r.len]
theorem LeLL.lies {w : World} {I : Cells} {b k : Nat} : ∀ {l l' : List (List V)} {o : Nat}, LeLL l l' → V.lies w I k l b o → V.lies w I k l' b o
  | _, _, _, .nil, _ => by simp only [V.lies]
  | _, _, o, .cons h r, ha => by
    simp only [V.lies] at ha ⊢
    exact ⟨LeL_ats h ha.1, LeL_len h ▸ ha.2.1, r.lies ha.2.2⟩
theorem Le.lists {own : Option Value} {k : Nat} {es es' : List (List V)} (h : LeLL es es') : Le (.list own k es) (.list none k es') := by
  intro w I x hx
  simp only [V.rep] at hx ⊢
  obtain ⟨_, a, c, h1, h2, h3⟩ := hx
  refine ⟨fun y hy => (by cases hy), a, c, h.len ▸ h1, h.len ▸ h2, ?_⟩
  rcases h3 with e | ⟨b, o, e, hl⟩
  · subst e
    cases h
    exact .inl rfl
  · exact .inr ⟨b, o, e, h.lies hl⟩

theorem bulks_pos : ∀ vs : List V, vs.length ≤ V.bulks vs
  | [] => Nat.zero_le _
  | v :: r => by
    have := bulks_pos r
    have h1 : 1 ≤ V.bulk v := by
      cases v with
      | lit x => cases x <;> simp [V.bulk]
      | list a k es => simp [V.bulk]
      | _ => simp [V.bulk]
    simp only [V.bulks, List.length_cons]; omega

/-- The elements of a slice that came in. -/
theorem inv_slice {α : Type} {t e : TypeId} {k : Nat} (hu : Try.prog.underlying t = some (.slice e)) (hk : Try.prog.cellsOf e = k) (c : α → List V) (G : α → Nat → Prop) (wt : α → Nat) (m : Nat)
    (inv : ∀ {d vs}, TV Try.prog d e vs → ∃ x, LeL vs (c x) ∧ G x (V.bulks vs) ∧ wt x ≤ m * V.bulks vs) (mono : ∀ x n n', n ≤ n' → G x n → G x n') (pos : ∀ x, 0 < (c x).length) {d : Nat} {v : V} (h : TV Try.prog d t [v]) :
    ∃ l : List α, Le v (.list none k (l.map c)) ∧ l.length ≤ V.bulk v ∧ (l.map wt).sum ≤ m * V.bulk v ∧ ∀ x ∈ l, G x (V.bulk v) := by
  cases d with
  | zero => exact h.elim
  | succ d =>
    simp only [TV, hu] at h
    rcases h with h | ⟨es, h, hmax, hes⟩
    · cases h
      exact ⟨[], Le.nil k, Nat.zero_le _, Nat.zero_le _, fun x hx => by cases hx⟩
    · rw [hk] at h
      cases h
      clear hmax
      have : ∃ l : List α, LeLL es (l.map c) ∧ l.length ≤ V.bulkss es ∧ (l.map wt).sum ≤ m * V.bulkss es ∧ ∀ x ∈ l, G x (V.bulkss es) := by
        induction es with
        | nil => exact ⟨[], .nil, Nat.zero_le _, Nat.zero_le _, fun x hx => by cases hx⟩
        | cons y es ih =>
          obtain ⟨x, h1, h2, h3⟩ := inv (hes y List.mem_cons_self)
          obtain ⟨l, g1, g2, g3, g4⟩ := ih fun z hz => hes z (List.mem_cons_of_mem _ hz)
          have hp := bulks_pos y
          rw [LeL_len h1] at hp
          have := pos x
          refine ⟨x :: l, .cons h1 g1, ?_, ?_, ?_⟩
          · simp only [List.length_cons, V.bulkss]; omega
          · simp only [List.map_cons, List.sum_cons, V.bulkss, Nat.mul_add]; omega
          · intro z hz
            rcases List.mem_cons.1 hz with rfl | hz
            · exact mono _ _ _ (by simp only [V.bulkss]; omega) h2
            · exact mono _ _ _ (by simp only [V.bulkss]; omega) (g4 z hz)
      obtain ⟨l, g1, g2, g3, g4⟩ := this
      have hb : V.bulk (.list none k es) = V.bulkss es + 1 := by simp [V.bulk]
      refine ⟨l, Le.lists g1, by omega, ?_, fun x hx => mono _ _ _ (by omega) (g4 x hx)⟩
      rw [hb, Nat.mul_add]; omega

theorem inv_int {d : Nat} {v : List V} (h : TV Try.prog d 3 v) : ∃ n, v = [vint n] ∧ inR n := by
  cases d with
  | zero => exact h.elim
  | succ d =>
    simp only [TV, Ty.un3] at h
    obtain ⟨n, rfl, hw⟩ := h
    refine ⟨n, rfl, ?_⟩
    simp only [Lit.wf, Bool.and_eq_true, decide_eq_true_eq] at hw
    have h1 : IntKind.i64.min = -9223372036854775808 := by decide
    have h2 : IntKind.i64.max = 9223372036854775807 := by decide
    unfold inR; omega
theorem inv_str {d : Nat} {v : List V} (h : TV Try.prog d 9 v) : ∃ s : Str, v = [vstr s] ∧ s.size ≤ maxLen := by
  cases d with
  | zero => exact h.elim
  | succ d =>
    simp only [TV, Ty.un9] at h
    exact h
theorem inv_fid {d : Nat} {vs : List V} (h : TV Try.prog d 53 vs) : ∃ i : FID, vs = cFID i := by
  cases d with
  | zero => exact h.elim
  | succ d =>
    simp only [TV, Try.underlying53, TVF] at h
    obtain ⟨x, y, rfl, hx, y1, y2, rfl, hy, rfl⟩ := h
    obtain ⟨s, rfl, _⟩ := inv_str hx
    obtain ⟨n, rfl, _⟩ := inv_int hy
    exact ⟨⟨s, n⟩, rfl⟩
theorem encV_size (v : Val) : (encV v).length = 24 + v.s.size := by
  simp only [encV, List.length_append, bytes8_len, strB_len]
theorem inv_val {d : Nat} {vs : List V} (h : TV Try.prog d 109 vs) : ∃ v : Val, LeL vs (cVal v) ∧ okV v ∧ (encV v).length ≤ 8 * V.bulks vs := by
  cases d with
  | zero => exact h.elim
  | succ d =>
    simp only [TV, Try.underlying109, TVF] at h
    obtain ⟨x, y, rfl, hx, y1, y2, rfl, hy, z1, z2, rfl, hz, rfl⟩ := h
    obtain ⟨k, rfl, hk⟩ := inv_int hx
    obtain ⟨n, rfl, hn⟩ := inv_int hy
    obtain ⟨s, rfl, hs⟩ := inv_str hz
    refine ⟨⟨k, n, s⟩, LeL.refl _, ⟨hk, hn, ?_⟩, ?_⟩
    · have : maxLen < 9223372036854775808 := by decide
      simp only; omega
    · rw [encV_size]
      simp only [List.cons_append, List.nil_append, V.bulks, V.bulk]
      omega
def gR (r : Rw) (n : Nat) : Prop := okR r ∧ r.fields.length ≤ n ∧ (encL r.fields).length ≤ 8 * n
theorem gR.mono {r : Rw} {n n' : Nat} (h : n ≤ n') (hg : gR r n) : gR r n' := ⟨hg.1, by have := hg.2.1; omega, by have := hg.2.2; omega⟩
theorem encL_sum (l : List Val) : (encL l).length = (l.map fun v => (encV v).length).sum := by
  induction l with
  | nil => rfl
  | cons v l ih => simp only [encL, List.flatMap_cons, List.length_append, List.map_cons, List.sum_cons] at ih ⊢; omega
theorem inv_row {d : Nat} {vs : List V} (h : TV Try.prog d 56 vs) : ∃ r : Rw, LeL vs (cRow r) ∧ gR r (V.bulks vs) := by
  cases d with
  | zero => exact h.elim
  | succ d =>
    simp only [TV, Try.underlying56, TVF] at h
    obtain ⟨x1, y1, rfl, h1, x2, y2, rfl, h2, x3, y3, rfl, h3, x4, y4, rfl, h4, x5, y5, rfl, h5, x6, y6, rfl, h6, x7, y7, rfl, h7, rfl⟩ := h
    obtain ⟨i, rfl⟩ := inv_fid h1
    obtain ⟨t, rfl, _⟩ := inv_str h2
    obtain ⟨k, rfl, _⟩ := inv_str h3
    obtain ⟨e, rfl, _⟩ := inv_int h4
    obtain ⟨no, rfl, _⟩ := inv_int h6
    obtain ⟨tk, rfl, _⟩ := inv_int h7
    have h5l : ∃ v, x5 = [v] := by
      cases d with
      | zero => exact h5.elim
      | succ d =>
        simp only [TV, Try.underlying54] at h5
        rcases h5 with h5 | ⟨es, h5, _⟩
        · exact ⟨_, h5⟩
        · exact ⟨_, h5⟩
    obtain ⟨v, rfl⟩ := h5l
    obtain ⟨l, g1, g2, g3, g4⟩ := inv_slice Try.underlying54 (by kernel_rfl : Try.prog.cellsOf 109 = 3) cVal (fun x _ => okV x) (fun x => (encV x).length) 8 (fun h => by obtain ⟨x, a, b, c⟩ := inv_val h; exact ⟨x, a, b, c⟩) (fun _ _ _ _ h => h) (fun _ => Nat.succ_pos _) h5
    refine ⟨⟨i, t, k, e, l, no, tk⟩, ?_, g4, ?_, ?_⟩
    · exact .cons (Le.refl _) (.cons (Le.refl _) (.cons (Le.refl _) (.cons (Le.refl _) (.cons (Le.refl _) (.cons g1 (LeL.refl _))))))
    · simp only [List.cons_append, List.nil_append, List.append_nil, V.bulks]; omega
    · rw [encL_sum]
      simp only [List.cons_append, List.nil_append, List.append_nil, V.bulks]; omega
def gD (x : Dlt) (n : Nat) : Prop := inR x.n ∧ gR x.row n
theorem gD.mono {x : Dlt} {n n' : Nat} (h : n ≤ n') (hg : gD x n) : gD x n' := ⟨hg.1, hg.2.mono h⟩
theorem LeL_append : ∀ {l l' m m' : List V}, LeL l l' → LeL m m' → LeL (l ++ m) (l' ++ m')
  | _, _, _, _, .nil, h => h
  | _, _, _, _, .cons h r, h' => .cons h (LeL_append r h')
theorem inv_dlt {d : Nat} {vs : List V} (h : TV Try.prog d 61 vs) : ∃ x : Dlt, LeL vs (cDlt x) ∧ gD x (V.bulks vs) := by
  cases d with
  | zero => exact h.elim
  | succ d =>
    simp only [TV, Try.underlying61, TVF] at h
    obtain ⟨x1, y1, rfl, h1, x2, y2, rfl, h2, x3, y3, rfl, h3, rfl⟩ := h
    obtain ⟨r, hr, hg⟩ := inv_row h1
    obtain ⟨t, rfl, _⟩ := inv_int h2
    obtain ⟨n, rfl, hn⟩ := inv_int h3
    refine ⟨⟨r, t, n⟩, LeL_append hr (LeL.refl _), hn, hg.mono ?_⟩
    rw [bulks_append]; omega
theorem inv_dlts {d : Nat} {v : V} (h : TV Try.prog d 41 [v]) : ∃ l : List Dlt, Le v (vDlts l) ∧ l.length ≤ V.bulk v ∧ ∀ x ∈ l, gD x (V.bulk v) := by
  obtain ⟨l, g1, g2, _, g4⟩ := inv_slice Try.underlying41 (by kernel_rfl : Try.prog.cellsOf 61 = 10) cDlt gD (fun _ => 0) 0 (fun h => by obtain ⟨x, a, b⟩ := inv_dlt h; exact ⟨x, a, b, Nat.zero_le _⟩) (fun _ _ _ h hg => hg.mono h) (fun _ => Nat.succ_pos _) h
  exact ⟨l, g1, g2, g4⟩
def gG (g : Grp) (n : Nat) : Prop := ∀ x ∈ g.ds, gD x n
theorem one_slice {d : Nat} {t e : TypeId} {vs : List V} (hu : Try.prog.underlying t = some (.slice e)) (h : TV Try.prog d t vs) : ∃ v, vs = [v] := by
  cases d with
  | zero => exact h.elim
  | succ d =>
    simp only [TV, hu] at h
    rcases h with h | ⟨es, h, _⟩
    · exact ⟨_, h⟩
    · exact ⟨_, h⟩
theorem inv_grp {d : Nat} {vs : List V} (h : TV Try.prog d 65 vs) : ∃ g : Grp, LeL vs (cGrp g) ∧ gG g (V.bulks vs) ∧ g.ds.length ≤ 1 * V.bulks vs := by
  cases d with
  | zero => exact h.elim
  | succ d =>
    simp only [TV, Try.underlying65, TVF] at h
    obtain ⟨x1, y1, rfl, h1, x2, y2, rfl, h2, rfl⟩ := h
    obtain ⟨k, rfl, _⟩ := inv_str h1
    obtain ⟨v, rfl⟩ := one_slice Try.underlying41 h2
    obtain ⟨l, g1, g2, g3⟩ := inv_dlts h2
    refine ⟨⟨k, l⟩, .cons (Le.refl _) (.cons g1 .nil), fun x hx => (g3 x hx).mono ?_, ?_⟩
    · simp only [List.cons_append, List.nil_append, V.bulks]; omega
    · simp only [List.cons_append, List.nil_append, V.bulks]; omega
theorem allD_sum (l : List Grp) : (allD l).length = (l.map fun g => g.ds.length).sum := by
  induction l with
  | nil => rfl
  | cons g l ih => rw [allD_cons, List.length_append, List.map_cons, List.sum_cons, ih]
theorem inv_arr {d : Nat} {a : V} (h : TA Try.prog d 24 a) : ∃ A : Arr, Le a (vArr A) ∧ A.groups.length ≤ V.bulkA a ∧ (allD A.groups).length ≤ V.bulkA a ∧ ∀ x ∈ allD A.groups, gD x (V.bulkA a) := by
  unfold TA at h
  simp only [Ty.ag24] at h
  obtain ⟨vs, rfl, h⟩ := h
  cases d with
  | zero => exact h.elim
  | succ d =>
    simp only [TV, Try.underlying24, TVF] at h
    obtain ⟨x1, y1, rfl, h1, x2, y2, rfl, h2, rfl⟩ := h
    obtain ⟨s, rfl, _⟩ := inv_int h1
    obtain ⟨v, rfl⟩ := one_slice Try.underlying22 h2
    obtain ⟨l, g1, g2, g3, g4⟩ := inv_slice Try.underlying22 (by kernel_rfl : Try.prog.cellsOf 65 = 2) cGrp gG (fun g => g.ds.length) 1 inv_grp (fun _ _ _ h hg x hx => (hg x hx).mono h) (fun _ => Nat.succ_pos _) h2
    have hb : V.bulkA (.agg ([vint s] ++ ([v] ++ []))) = 1 + V.bulk v := by simp only [V.bulkA, List.cons_append, List.nil_append, V.bulks, V.bulk]; omega
    rw [hb]
    refine ⟨⟨s, l⟩, Le.agg (.cons (Le.refl _) (.cons g1 .nil)), by simp only; omega, by simp only; rw [allD_sum]; omega, fun x hx => ?_⟩
    obtain ⟨g, hg, hx⟩ := List.mem_flatMap.1 hx
    exact (g4 g hg x hx).mono (by omega)
theorem gD.fit {x : Dlt} {n : Nat} (h : gD x n) (hn : n ≤ 1048576) : inR x.n ∧ fitR x.row := by
  refine ⟨h.1, ?_, ?_, h.2.1⟩
  · have := h.2.2.1; unfold big; omega
  · have := h.2.2.2; omega
theorem in_arr {d : Nat} {a : V} (h : TA Try.prog d 24 a) (hb : V.bulkA a ≤ 1048576) : ∃ A : Arr, Le a (vArr A) ∧ fitA A := by
  obtain ⟨A, h1, h2, h3, h4⟩ := inv_arr h
  exact ⟨A, h1, by unfold big; omega, by unfold big; omega, fun x hx => (h4 x hx).fit hb⟩
theorem in_dlts {d : Nat} {a : V} (h : TA Try.prog d 41 a) (hb : V.bulkA a ≤ 1048576) : ∃ l : List Dlt, Le a (vDlts l) ∧ fitDs l := by
  unfold TA at h
  simp only [Ty.ag41] at h
  obtain ⟨l, h1, h2, h3⟩ := inv_dlts h
  have hbb : V.bulk a ≤ V.bulkA a := by
    cases a with
    | agg vs => cases d with
      | zero => exact h.elim
      | succ d =>
        simp only [TV, Try.underlying41] at h
        rcases h with h | ⟨es, h, _⟩ <;> cases h
    | _ => exact Nat.le_refl _
  exact ⟨l, h1, by unfold big; omega, fun x hx => (h3 x hx).fit (by omega)⟩
theorem in_ids {d : Nat} {a : V} (h : TA Try.prog d 47 a) (hb : V.bulkA a ≤ 1048576) : ∃ l : List FID, Le a (vFIDs l) ∧ l.length ≤ 1048576 := by
  unfold TA at h
  simp only [Ty.ag47] at h
  have hbb : V.bulk a ≤ V.bulkA a := by
    cases a with
    | agg vs => cases d with
      | zero => exact h.elim
      | succ d =>
        simp only [TV, Try.underlying47] at h
        rcases h with h | ⟨es, h, _⟩ <;> cases h
    | _ => exact Nat.le_refl _
  obtain ⟨l, g1, g2, _, _⟩ := inv_slice Try.underlying47 (by kernel_rfl : Try.prog.cellsOf 53 = 2) cFID (fun _ _ => True) (fun _ => 0) 0 (fun h => by obtain ⟨x, rfl⟩ := inv_fid h; exact ⟨x, LeL.refl _, trivial, Nat.zero_le _⟩) (fun _ _ _ _ h => h) (fun _ => Nat.succ_pos _) h
  exact ⟨l, g1, by omega⟩
theorem in_int {d : Nat} {a : V} (h : TA Try.prog d 3 a) : ∃ n, a = vint n := by
  unfold TA at h
  simp only [Ty.ag3] at h
  obtain ⟨n, e, _⟩ := inv_int h
  cases e; exact ⟨n, rfl⟩
theorem in_str {d : Nat} {a : V} (h : TA Try.prog d 9 a) : ∃ s, a = vstr s := by
  unfold TA at h
  simp only [Ty.ag9] at h
  obtain ⟨n, e, _⟩ := inv_str h
  cases e; exact ⟨n, rfl⟩
theorem in_ival {d : Nat} {a : V} (h : TA Try.prog d 26 a) : ∃ lo hi, a = .agg [vint lo, vint hi] := by
  unfold TA at h
  simp only [Ty.ag26] at h
  obtain ⟨vs, rfl, h⟩ := h
  cases d with
  | zero => exact h.elim
  | succ d =>
    simp only [TV, Try.underlying26, TVF] at h
    obtain ⟨x, y, rfl, hx, y1, y2, rfl, hy, rfl⟩ := h
    obtain ⟨k, rfl, _⟩ := inv_int hx
    obtain ⟨s, rfl, _⟩ := inv_int hy
    exact ⟨k, s, rfl⟩
theorem bulkAs_mem : ∀ {zs : List V} {a : V}, a ∈ zs → V.bulkA a ≤ V.bulkAs zs
  | b :: r, a, h => by
    rcases List.mem_cons.1 h with rfl | h
    · simp only [V.bulkAs]; omega
    · have := bulkAs_mem h; simp only [V.bulkAs]; omega

/-! ### The bulk that the rows speak of -/
mutual
theorem bulk_eq {H : Type} : ∀ d : DataW H, Rows.uptoBulk d = bulkD d
  | .lit (.string b) => by simp only [Rows.uptoBulk, bulkD]
  | .lit (.int _ _) => by simp only [Rows.uptoBulk, bulkD]
  | .lit (.bool _) => by simp only [Rows.uptoBulk, bulkD]
  | .lit (.float _ _) => by simp only [Rows.uptoBulk, bulkD]
  | .lit .nil => by simp only [Rows.uptoBulk, bulkD]
  | .nil => by simp only [Rows.uptoBulk, bulkD]
  | .ptr d => by simp only [Rows.uptoBulk, bulkD, bulk_eq d]
  | .slice es sp => by simp only [Rows.uptoBulk, bulkD, bulks_eq es, bulks_eq sp]
  | .agg ps => by simp only [Rows.uptoBulk, bulkD, bulks_eq ps]
  | .iface _ d => by simp only [Rows.uptoBulk, bulkD, bulk_eq d]
  | .map es => by simp only [Rows.uptoBulk, bulkD, bulke_eq es]
  | .held _ => by simp only [Rows.uptoBulk, bulkD]
theorem bulks_eq {H : Type} : ∀ ds : List (DataW H), Rows.uptoBulkAll ds = bulkDs ds
  | [] => by simp only [Rows.uptoBulkAll, bulkDs]
  | d :: r => by simp only [Rows.uptoBulkAll, bulkDs, bulk_eq d, bulks_eq r]
theorem bulke_eq {H : Type} : ∀ es : List (Lit × DataW H), Rows.uptoBulkEntries es = bulkDe es
  | [] => by simp only [Rows.uptoBulkEntries, bulkDe]
  | x :: r => by simp only [Rows.uptoBulkEntries, bulkDe, bulkx_eq x, bulke_eq r]
theorem bulkx_eq {H : Type} : ∀ x : Lit × DataW H, Rows.uptoBulkEntry x = bulkDx x
  | (.string b, d) => by simp only [Rows.uptoBulkEntry, bulkDx, bulk_eq d]
  | (.int _ _, d) => by simp only [Rows.uptoBulkEntry, bulkDx, bulk_eq d]
  | (.bool _, d) => by simp only [Rows.uptoBulkEntry, bulkDx, bulk_eq d]
  | (.float _ _, d) => by simp only [Rows.uptoBulkEntry, bulkDx, bulk_eq d]
  | (.nil, d) => by simp only [Rows.uptoBulkEntry, bulkDx, bulk_eq d]
end
end Go.Proofs.Ytopfanlkbepemaa

