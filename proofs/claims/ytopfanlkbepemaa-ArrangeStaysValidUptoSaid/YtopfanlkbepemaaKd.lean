/- Merged out of my texts AKg AL. -/
import Derived.Test.YtopfanlkbepemaaKc
import Derived.Test.YtopfanlkbepemaaKb
import Derived.Test.YtopfanlkbepemaaVG
import Derived.Test.YtopfanlkbepemaaRows
import Derived.ProofKit
import Derived.JoinedCond
set_option linter.unusedVariables false
/- Arrangements: ArrangeStaysValid. -/
set_option linter.unusedSimpArgs false
set_option maxRecDepth 100000
namespace Go.Proofs.Ytopfanlkbepemaa
open Go.VL Go.Ar Go.Proofs.Ytopfanlkbepemaa

theorem check_ofM {s : Int} {D : List Dlt} (hf : fitDs D) (h0 : 0 ≤ s) (h1 : s ≤ maxT) (hs : ∀ x ∈ D, s ≤ x.tick) : checkM (ofM s D) = 0 := by
  unfold checkM
  rw [if_pos ((valid_iff (fit_of hf).2.okN).2 (ofM_valid h0 h1 hf.okN hs))]
theorem late_take (a : Arr) (d : List Dlt) (i : Nat) (h : i < d.length) : lateB a (d.take (i + 1)) = (lateB a (d.take i) || decide (d[i].tick < a.since)) := by
  unfold lateB
  rw [List.take_succ_eq_append_getElem h, List.any_append]; simp
theorem advD_ge (d : List Dlt) (s : Int) : ∀ x ∈ advD s d, s ≤ x.tick := fun x hx => by
  obtain ⟨y, _, rfl⟩ := List.mem_map.1 hx
  simp only
  omega
set_option linter.defProp false in
def tbAKg0 := (And.intro (And.intro (And.intro (And.intro (And.intro (And.intro Ty.sz3 (And.intro Ty.by3 Ty.ag3)) (And.intro (And.intro Ty.zr3 Ty.un3) (And.intro Ty.sz4 Ty.by4))) (And.intro (And.intro Ty.ag4 (And.intro Ty.zr4 Ty.un4)) (And.intro (And.intro Ty.sz9 Ty.by9) (And.intro Ty.ag9 Ty.zr9)))) (And.intro (And.intro (And.intro Ty.un9 (And.intro Ty.sz22 Ty.by22)) (And.intro (And.intro Ty.ag22 Ty.zr22) (And.intro Ty.un22 Ty.sz24))) (And.intro (And.intro Ty.by24 (And.intro Ty.ag24 Ty.zr24)) (And.intro (And.intro Ty.fl24_0 Ty.pl24_0) (And.intro Ty.fl24_1 Ty.pl24_1))))) (And.intro (And.intro (And.intro (And.intro Ty.sz29 (And.intro Ty.by29 Ty.ag29)) (And.intro (And.intro Ty.zr29 Ty.un29) (And.intro Ty.sz30 Ty.by30))) (And.intro (And.intro Ty.ag30 (And.intro Ty.sz41 Ty.by41)) (And.intro (And.intro Ty.ag41 Ty.zr41) (And.intro Ty.un41 Ty.sz47)))) (And.intro (And.intro (And.intro Ty.by47 (And.intro Ty.ag47 Ty.zr47)) (And.intro (And.intro Ty.un47 Ty.sz53) (And.intro Ty.by53 Ty.ag53))) (And.intro (And.intro Ty.zr53 (And.intro Ty.fl53_0 Ty.pl53_0)) (And.intro (And.intro Ty.fl53_1 Ty.pl53_1) (And.intro Ty.sz54 Ty.by54)))))) (And.intro (And.intro (And.intro (And.intro (And.intro Ty.ag54 (And.intro Ty.zr54 Ty.un54)) (And.intro (And.intro Ty.sz56 Ty.by56) (And.intro Ty.ag56 Ty.zr56))) (And.intro (And.intro Ty.fl56_0 (And.intro Ty.pl56_0 Ty.fl56_1)) (And.intro (And.intro Ty.pl56_1 Ty.fl56_2) (And.intro Ty.pl56_2 Ty.fl56_3)))) (And.intro (And.intro (And.intro Ty.pl56_3 (And.intro Ty.fl56_4 Ty.pl56_4)) (And.intro (And.intro Ty.fl56_5 Ty.pl56_5) (And.intro Ty.fl56_6 Ty.pl56_6))) (And.intro (And.intro Ty.sz61 (And.intro Ty.by61 Ty.ag61)) (And.intro (And.intro Ty.zr61 Ty.fl61_0) (And.intro Ty.pl61_0 Ty.fl61_1))))) (And.intro (And.intro (And.intro (And.intro Ty.pl61_1 (And.intro Ty.fl61_2 Ty.pl61_2)) (And.intro (And.intro Ty.sz65 Ty.by65) (And.intro Ty.ag65 Ty.zr65))) (And.intro (And.intro Ty.fl65_0 (And.intro Ty.pl65_0 Ty.fl65_1)) (And.intro (And.intro Ty.pl65_1 Ty.sz109) (And.intro Ty.by109 Ty.ag109)))) (And.intro (And.intro (And.intro Ty.zr109 (And.intro Ty.fl109_0 Ty.pl109_0)) (And.intro (And.intro Ty.fl109_1 Ty.pl109_1) (And.intro Ty.fl109_2 Ty.pl109_2))) (And.intro (And.intro (And.intro Ty.eq53 Ty.eq109) (And.intro Ty.cb10 Ty.cb11)) (And.intro (And.intro Ty.cb12 Ty.cb17) (And.intro Ty.cb22 Ty.cb27)))))))
set_option maxHeartbeats 1000000 in
theorem stays_ok (a : Arr) (d : List Dlt) (since : Int) (ids : List FID) (ha : fitA a) (hd : fitDs d) (hids : ids.length ≤ 1048576) : OkP Try.prog 9 [vArr a, vDlts d, vint since, vFIDs ids] (vbool true) := by
  have hi0 := ids_len ids hids
  have hpf := purA_fit ha ids
  have hdl := hd.1
  unfold big at hdl
  refine Ok.of_ex Ty.mixed Try.func9 rfl (by simp [Try.ntmps9]) (by kernel_rfl) fun F w0 I0 => ?_
  simp only [↓rA, rB, Int.reduceLE, Int.reduceLT, Int.reduceToNat, Nat.reduceAdd, Nat.reduceEqDiff, Nat.reduceLT, Nat.reduceLeDiff, Nat.reduceMul, Nat.reduceSub, reduceCtorEq, tbAKg0, Try.results9]
  refine fun b4 h4 => ?_; replace h4 := newb h4; try simp only [Nb] at h4
  simp only [↓rA, rB, Int.reduceLE, Int.reduceLT, Int.reduceToNat, Nat.reduceAdd, Nat.reduceEqDiff, Nat.reduceLT, Nat.reduceLeDiff, Nat.reduceMul, Nat.reduceSub, reduceCtorEq, tbAKg0, Try.results9, h4]
  refine OkF_of _ example_ok ?_
  simp only [↓rA, rB, Int.reduceLE, Int.reduceLT, Int.reduceToNat, Nat.reduceAdd, Nat.reduceEqDiff, Nat.reduceLT, Nat.reduceLeDiff, Nat.reduceMul, Nat.reduceSub, reduceCtorEq, tbAKg0, Try.results9, h4]
  refine OkF_of _ (right_ok a d ha hd.1) ?_
  cases hr : rightM a d
  · simp only [↓rA, rB, Int.reduceLE, Int.reduceLT, Int.reduceToNat, Nat.reduceAdd, Nat.reduceEqDiff, Nat.reduceLT, Nat.reduceLeDiff, Nat.reduceMul, Nat.reduceSub, reduceCtorEq, tbAKg0, Try.results9, h4]
    exact ret_done rfl
  have hv := right_valid ha hr
  have hfew := right_few hr
  have hlo := hv.lo
  have hhi := hv.hi
  by_cases h50 : (50 : Int) < (ids.length : Int)
  · simp only [↓rA, rB, Int.reduceLE, Int.reduceLT, Int.reduceToNat, Nat.reduceAdd, Nat.reduceEqDiff, Nat.reduceLT, Nat.reduceLeDiff, Nat.reduceMul, Nat.reduceSub, reduceCtorEq, tbAKg0, Try.results9, h4, List.length_map, h50]
    exact ret_done rfl
  simp only [↓rA, rB, Int.reduceLE, Int.reduceLT, Int.reduceToNat, Nat.reduceAdd, Nat.reduceEqDiff, Nat.reduceLT, Nat.reduceLeDiff, Nat.reduceMul, Nat.reduceSub, reduceCtorEq, tbAKg0, Try.results9, h4, List.length_map, h50]
  have hck := check_ofM (s := a.since) (fit_append ha hd (by omega)) hlo hhi
  have hpc : checkM (purA a ids) = 0 := check_ofM (ha.2.purge ids) hlo hhi fun x hx => hv.late x (List.mem_filter.1 hx).1
  have hps : (purA a ids).since = a.since := rfl
  have hAc := check_ofM (s := since) (ha.2.adv since)
  refine OkF_of _ (insP_ok a d ha (fit_append ha hd (by omega))) ?_
  generalize hx : insA a d = px
  obtain ⟨x, f⟩ := px
  simp only [↓rA, rB, Int.reduceLE, Int.reduceLT, Int.reduceToNat, Nat.reduceAdd, Nat.reduceEqDiff, Nat.reduceLT, Nat.reduceLeDiff, Nat.reduceMul, Nat.reduceSub, reduceCtorEq, tbAKg0, Try.results9, h4]
  refine fun b10 h10 => ?_; replace h10 := newb h10; try simp only [Nb] at h10
  simp only [↓rA, rB, Int.reduceLE, Int.reduceLT, Int.reduceToNat, Nat.reduceAdd, Nat.reduceEqDiff, Nat.reduceLT, Nat.reduceLeDiff, Nat.reduceMul, Nat.reduceSub, reduceCtorEq, tbAKg0, Try.results9, h4, h10]
  refine EX_for Ty.mixed (by kernel_rfl) d.length (fun i S => S.σ 12 = vbool (lateB a (d.take i)) ∧ S.σ 1 = vDlts d ∧ S.σ 2 = vint since ∧ S.σ 3 = vFIDs ids ∧ S.σ 4 = ptr b4 ∧ S.σ 9 = vbool true ∧ S.σ 10 = ptr b10 ∧ S.σ 11 = vint f ∧ S.σ 13 = vint i ∧ S.boxes = [(b10, .c (cArr x)), (b4, .c (cArr a))] ∧ S.rows = []) ⟨0, ?_⟩ (fun i S hi ⟨g12, g1, g2, g3, g4, g9, g10, g11, g13, gb, gr⟩ => ?_) (fun S ⟨g12, g1, g2, g3, g4, g9, g10, g11, g13, gb, gr⟩ => ?_)
  · simp only [↓rA, rB, Int.reduceLE, Int.reduceLT, Int.reduceToNat, Nat.reduceAdd, Nat.reduceEqDiff, Nat.reduceLT, Nat.reduceLeDiff, Nat.reduceMul, Nat.reduceSub, reduceCtorEq, tbAKg0, Try.results9, h4, h10]
    try rfl
  · have hlt := late_take a d i hi
    cases hg : lateB a (d.take i)
    · rw [hg] at g12 hlt
      by_cases ht : d[i].tick < a.since
      · rw [decide_eq_true ht] at hlt
        simp only [↓rA, rB, Int.reduceLE, Int.reduceLT, Int.reduceToNat, Nat.reduceAdd, Nat.reduceEqDiff, Nat.reduceLT, Nat.reduceLeDiff, Nat.reduceMul, Nat.reduceSub, reduceCtorEq, tbAKg0, Try.results9, g12, g1, g2, g3, g4, g9, g10, g11, g13, gb, gr, h4, h10, Int.ofNat_lt, hi, ht, List.length_map, getD_map, wrap_succ hi (Nat.le_trans hdl (by decide))]
        exact ⟨0, by rw [hlt]; rfl, rfl⟩
      · rw [decide_eq_false ht] at hlt
        simp only [↓rA, rB, Int.reduceLE, Int.reduceLT, Int.reduceToNat, Nat.reduceAdd, Nat.reduceEqDiff, Nat.reduceLT, Nat.reduceLeDiff, Nat.reduceMul, Nat.reduceSub, reduceCtorEq, tbAKg0, Try.results9, g12, g1, g2, g3, g4, g9, g10, g11, g13, gb, gr, h4, h10, Int.ofNat_lt, hi, ht, List.length_map, getD_map, wrap_succ hi (Nat.le_trans hdl (by decide))]
        exact ⟨0, by rw [hlt]; rfl, rfl⟩
    · rw [hg] at g12 hlt
      simp only [↓rA, rB, Int.reduceLE, Int.reduceLT, Int.reduceToNat, Nat.reduceAdd, Nat.reduceEqDiff, Nat.reduceLT, Nat.reduceLeDiff, Nat.reduceMul, Nat.reduceSub, reduceCtorEq, tbAKg0, Try.results9, g12, g1, g2, g3, g4, g9, g10, g11, g13, gb, gr, h4, h10, Int.ofNat_lt, hi, List.length_map, getD_map, wrap_succ hi (Nat.le_trans hdl (by decide))]
      exact ⟨0, by rw [hlt]; rfl, rfl⟩
  · rw [List.take_of_length_le (Nat.le_refl _)] at g12
    have n220 : decide ((0 : Int) = 220) = false := by decide
    have n1220 : decide ((1 : Int) = 220) = false := by decide
    have n10 : decide ((1 : Int) = 0) = false := by decide
    have n2200 : decide ((220 : Int) = 0) = false := by decide
    have n2201 : decide ((220 : Int) = 1) = false := by decide
    have n01 : decide ((0 : Int) = 1) = false := by decide
    have ng : decide ((0 : Int) < ((arr0.groups.length : Nat) : Int)) = false := by decide
    cases hl : lateB a d
    · obtain ⟨rfl, rfl⟩ := Prod.mk.inj (hx.symm.trans (ins_in hl))
      rw [hl] at g12
      replace g12 : S.σ 12 = .lit (.bool false) := g12
      have hc0 := hck fun x hx => (List.mem_append.1 hx).elim (hv.late x) (late_not hl x)
      have hxf := fit_of (s := a.since) (fit_append ha hd (by omega))
      have hxs : (ofM a.since (allD a.groups ++ d)).since = a.since := rfl
      clear hx
      generalize ofM a.since (allD a.groups ++ d) = x at hc0 hxf hxs gb
      simp only [↓rA, rB, Int.reduceLE, Int.reduceLT, Int.reduceToNat, Nat.reduceAdd, Nat.reduceEqDiff, Nat.reduceLT, Nat.reduceLeDiff, Nat.reduceMul, Nat.reduceSub, reduceCtorEq, tbAKg0, Try.results9, g12, g1, g2, g3, g4, g9, g10, g11, g13, gb, gr, h4, h10, Int.ofNat_lt, Nat.lt_irrefl, List.length_map, n220]
      refine OkF_of _ (check27_ok x hxf) ?_
      rw [hc0]
      simp only [↓rA, rB, Int.reduceLE, Int.reduceLT, Int.reduceToNat, Nat.reduceAdd, Nat.reduceEqDiff, Nat.reduceLT, Nat.reduceLeDiff, Nat.reduceMul, Nat.reduceSub, reduceCtorEq, tbAKg0, Try.results9, g12, g1, g2, g3, g4, g9, g10, g11, g13, gb, gr, h4, h10, hxs]
      refine OkF_of _ (advP_ok a since ha) ?_
      by_cases s1 : maxT < since
      · have s2 : ¬ since < a.since := by omega
        rw [show advA a since = (arr0, 1) by unfold advA; rw [if_pos s1]]
        simp only [↓rA, rB, Int.reduceLE, Int.reduceLT, Int.reduceToNat, Nat.reduceAdd, Nat.reduceEqDiff, Nat.reduceLT, Nat.reduceLeDiff, Nat.reduceMul, Nat.reduceSub, reduceCtorEq, tbAKg0, Try.results9, g12, g1, g2, g3, g4, g9, g10, g11, g13, gb, gr, h4, h10]
        refine fun b14 h14 => ?_; replace h14 := newb h14; try simp only [Nb] at h14
        simp only [↓rA, rB, Int.reduceLE, Int.reduceLT, Int.reduceToNat, Nat.reduceAdd, Nat.reduceEqDiff, Nat.reduceLT, Nat.reduceLeDiff, Nat.reduceMul, Nat.reduceSub, reduceCtorEq, tbAKg0, Try.results9, g12, g1, g2, g3, g4, g9, g10, g11, g13, gb, gr, h4, h10, h14, s1, s2, n220, n1220, n10]
        refine OkF_of _ (purgeP_ok a ids ha hi0) ?_
        generalize purA a ids = u at hpc hps hpf
        simp only [↓rA, rB, Int.reduceLE, Int.reduceLT, Int.reduceToNat, Nat.reduceAdd, Nat.reduceEqDiff, Nat.reduceLT, Nat.reduceLeDiff, Nat.reduceMul, Nat.reduceSub, reduceCtorEq, tbAKg0, Try.results9, g12, g1, g2, g3, g4, g9, g10, g11, g13, gb, gr, h4, h10, h14]
        refine fun b16 h16 => ?_; replace h16 := newb h16; try simp only [Nb] at h16
        simp only [↓rA, rB, Int.reduceLE, Int.reduceLT, Int.reduceToNat, Nat.reduceAdd, Nat.reduceEqDiff, Nat.reduceLT, Nat.reduceLeDiff, Nat.reduceMul, Nat.reduceSub, reduceCtorEq, tbAKg0, Try.results9, g12, g1, g2, g3, g4, g9, g10, g11, g13, gb, gr, h4, h10, h14, h16]
        refine OkF_of _ (check27_ok u hpf) ?_
        rw [hpc]
        simp only [↓rA, rB, Int.reduceLE, Int.reduceLT, Int.reduceToNat, Nat.reduceAdd, Nat.reduceEqDiff, Nat.reduceLT, Nat.reduceLeDiff, Nat.reduceMul, Nat.reduceSub, reduceCtorEq, tbAKg0, Try.results9, g12, g1, g2, g3, g4, g9, g10, g11, g13, gb, gr, h4, h10, h14, h16, hps]
        exact ret_done rfl
      · by_cases s2 : since < a.since
        · rw [show advA a since = (arr0, 220) by unfold advA; rw [if_neg s1, if_pos s2]]
          simp only [↓rA, rB, Int.reduceLE, Int.reduceLT, Int.reduceToNat, Nat.reduceAdd, Nat.reduceEqDiff, Nat.reduceLT, Nat.reduceLeDiff, Nat.reduceMul, Nat.reduceSub, reduceCtorEq, tbAKg0, Try.results9, g12, g1, g2, g3, g4, g9, g10, g11, g13, gb, gr, h4, h10]
          refine fun b14 h14 => ?_; replace h14 := newb h14; try simp only [Nb] at h14
          simp only [↓rA, rB, Int.reduceLE, Int.reduceLT, Int.reduceToNat, Nat.reduceAdd, Nat.reduceEqDiff, Nat.reduceLT, Nat.reduceLeDiff, Nat.reduceMul, Nat.reduceSub, reduceCtorEq, tbAKg0, Try.results9, g12, g1, g2, g3, g4, g9, g10, g11, g13, gb, gr, h4, h10, h14, s1, s2, n220, n2200, n2201]
          refine OkF_of _ (purgeP_ok a ids ha hi0) ?_
          generalize purA a ids = u at hpc hps hpf
          simp only [↓rA, rB, Int.reduceLE, Int.reduceLT, Int.reduceToNat, Nat.reduceAdd, Nat.reduceEqDiff, Nat.reduceLT, Nat.reduceLeDiff, Nat.reduceMul, Nat.reduceSub, reduceCtorEq, tbAKg0, Try.results9, g12, g1, g2, g3, g4, g9, g10, g11, g13, gb, gr, h4, h10, h14]
          refine fun b16 h16 => ?_; replace h16 := newb h16; try simp only [Nb] at h16
          simp only [↓rA, rB, Int.reduceLE, Int.reduceLT, Int.reduceToNat, Nat.reduceAdd, Nat.reduceEqDiff, Nat.reduceLT, Nat.reduceLeDiff, Nat.reduceMul, Nat.reduceSub, reduceCtorEq, tbAKg0, Try.results9, g12, g1, g2, g3, g4, g9, g10, g11, g13, gb, gr, h4, h10, h14, h16]
          refine OkF_of _ (check27_ok u hpf) ?_
          rw [hpc]
          simp only [↓rA, rB, Int.reduceLE, Int.reduceLT, Int.reduceToNat, Nat.reduceAdd, Nat.reduceEqDiff, Nat.reduceLT, Nat.reduceLeDiff, Nat.reduceMul, Nat.reduceSub, reduceCtorEq, tbAKg0, Try.results9, g12, g1, g2, g3, g4, g9, g10, g11, g13, gb, gr, h4, h10, h14, h16, hps]
          exact ret_done rfl
        · rw [adv_in (by omega) (by omega)]
          have hc := hAc (by omega) (by omega) (advD_ge _ _)
          have hsf := fit_of (s := since) (ha.2.adv since)
          have hss : (ofM since (advD since (allD a.groups))).since = since := rfl
          generalize ofM since (advD since (allD a.groups)) = w at hc hsf hss
          simp only [↓rA, rB, Int.reduceLE, Int.reduceLT, Int.reduceToNat, Nat.reduceAdd, Nat.reduceEqDiff, Nat.reduceLT, Nat.reduceLeDiff, Nat.reduceMul, Nat.reduceSub, reduceCtorEq, tbAKg0, Try.results9, g12, g1, g2, g3, g4, g9, g10, g11, g13, gb, gr, h4, h10]
          refine fun b14 h14 => ?_; replace h14 := newb h14; try simp only [Nb] at h14
          simp only [↓rA, rB, Int.reduceLE, Int.reduceLT, Int.reduceToNat, Nat.reduceAdd, Nat.reduceEqDiff, Nat.reduceLT, Nat.reduceLeDiff, Nat.reduceMul, Nat.reduceSub, reduceCtorEq, tbAKg0, Try.results9, g12, g1, g2, g3, g4, g9, g10, g11, g13, gb, gr, h4, h10, h14, s1, s2, n220, n01]
          refine OkF_of _ (check27_ok w hsf) ?_
          rw [hc]
          simp only [↓rA, rB, Int.reduceLE, Int.reduceLT, Int.reduceToNat, Nat.reduceAdd, Nat.reduceEqDiff, Nat.reduceLT, Nat.reduceLeDiff, Nat.reduceMul, Nat.reduceSub, reduceCtorEq, tbAKg0, Try.results9, g12, g1, g2, g3, g4, g9, g10, g11, g13, gb, gr, h4, h10, h14, hss]
          refine OkF_of _ (purgeP_ok a ids ha hi0) ?_
          generalize purA a ids = u at hpc hps hpf
          simp only [↓rA, rB, Int.reduceLE, Int.reduceLT, Int.reduceToNat, Nat.reduceAdd, Nat.reduceEqDiff, Nat.reduceLT, Nat.reduceLeDiff, Nat.reduceMul, Nat.reduceSub, reduceCtorEq, tbAKg0, Try.results9, g12, g1, g2, g3, g4, g9, g10, g11, g13, gb, gr, h4, h10, h14]
          refine fun b16 h16 => ?_; replace h16 := newb h16; try simp only [Nb] at h16
          simp only [↓rA, rB, Int.reduceLE, Int.reduceLT, Int.reduceToNat, Nat.reduceAdd, Nat.reduceEqDiff, Nat.reduceLT, Nat.reduceLeDiff, Nat.reduceMul, Nat.reduceSub, reduceCtorEq, tbAKg0, Try.results9, g12, g1, g2, g3, g4, g9, g10, g11, g13, gb, gr, h4, h10, h14, h16]
          refine OkF_of _ (check27_ok u hpf) ?_
          rw [hpc]
          simp only [↓rA, rB, Int.reduceLE, Int.reduceLT, Int.reduceToNat, Nat.reduceAdd, Nat.reduceEqDiff, Nat.reduceLT, Nat.reduceLeDiff, Nat.reduceMul, Nat.reduceSub, reduceCtorEq, tbAKg0, Try.results9, g12, g1, g2, g3, g4, g9, g10, g11, g13, gb, gr, h4, h10, h14, h16, hps]
          exact ret_done rfl
    · have he : insA a d = (arr0, 220) := by unfold insA; rw [if_pos hl]
      obtain ⟨rfl, rfl⟩ := Prod.mk.inj (hx.symm.trans he)
      rw [hl] at g12
      replace g12 : S.σ 12 = .lit (.bool true) := g12
      simp only [↓rA, rB, Int.reduceLE, Int.reduceLT, Int.reduceToNat, Nat.reduceAdd, Nat.reduceEqDiff, Nat.reduceLT, Nat.reduceLeDiff, Nat.reduceMul, Nat.reduceSub, reduceCtorEq, tbAKg0, Try.results9, g12, g1, g2, g3, g4, g9, g10, g11, g13, gb, gr, h4, h10, Int.ofNat_lt, Nat.lt_irrefl, List.length_map, n220, ng]
      refine OkF_of _ (advP_ok a since ha) ?_
      by_cases s1 : maxT < since
      · have s2 : ¬ since < a.since := by omega
        rw [show advA a since = (arr0, 1) by unfold advA; rw [if_pos s1]]
        simp only [↓rA, rB, Int.reduceLE, Int.reduceLT, Int.reduceToNat, Nat.reduceAdd, Nat.reduceEqDiff, Nat.reduceLT, Nat.reduceLeDiff, Nat.reduceMul, Nat.reduceSub, reduceCtorEq, tbAKg0, Try.results9, g12, g1, g2, g3, g4, g9, g10, g11, g13, gb, gr, h4, h10]
        refine fun b14 h14 => ?_; replace h14 := newb h14; try simp only [Nb] at h14
        simp only [↓rA, rB, Int.reduceLE, Int.reduceLT, Int.reduceToNat, Nat.reduceAdd, Nat.reduceEqDiff, Nat.reduceLT, Nat.reduceLeDiff, Nat.reduceMul, Nat.reduceSub, reduceCtorEq, tbAKg0, Try.results9, g12, g1, g2, g3, g4, g9, g10, g11, g13, gb, gr, h4, h10, h14, s1, s2, n220, n1220, n10]
        refine OkF_of _ (purgeP_ok a ids ha hi0) ?_
        generalize purA a ids = u at hpc hps hpf
        simp only [↓rA, rB, Int.reduceLE, Int.reduceLT, Int.reduceToNat, Nat.reduceAdd, Nat.reduceEqDiff, Nat.reduceLT, Nat.reduceLeDiff, Nat.reduceMul, Nat.reduceSub, reduceCtorEq, tbAKg0, Try.results9, g12, g1, g2, g3, g4, g9, g10, g11, g13, gb, gr, h4, h10, h14]
        refine fun b16 h16 => ?_; replace h16 := newb h16; try simp only [Nb] at h16
        simp only [↓rA, rB, Int.reduceLE, Int.reduceLT, Int.reduceToNat, Nat.reduceAdd, Nat.reduceEqDiff, Nat.reduceLT, Nat.reduceLeDiff, Nat.reduceMul, Nat.reduceSub, reduceCtorEq, tbAKg0, Try.results9, g12, g1, g2, g3, g4, g9, g10, g11, g13, gb, gr, h4, h10, h14, h16]
        refine OkF_of _ (check27_ok u hpf) ?_
        rw [hpc]
        simp only [↓rA, rB, Int.reduceLE, Int.reduceLT, Int.reduceToNat, Nat.reduceAdd, Nat.reduceEqDiff, Nat.reduceLT, Nat.reduceLeDiff, Nat.reduceMul, Nat.reduceSub, reduceCtorEq, tbAKg0, Try.results9, g12, g1, g2, g3, g4, g9, g10, g11, g13, gb, gr, h4, h10, h14, h16, hps]
        exact ret_done rfl
      · by_cases s2 : since < a.since
        · rw [show advA a since = (arr0, 220) by unfold advA; rw [if_neg s1, if_pos s2]]
          simp only [↓rA, rB, Int.reduceLE, Int.reduceLT, Int.reduceToNat, Nat.reduceAdd, Nat.reduceEqDiff, Nat.reduceLT, Nat.reduceLeDiff, Nat.reduceMul, Nat.reduceSub, reduceCtorEq, tbAKg0, Try.results9, g12, g1, g2, g3, g4, g9, g10, g11, g13, gb, gr, h4, h10]
          refine fun b14 h14 => ?_; replace h14 := newb h14; try simp only [Nb] at h14
          simp only [↓rA, rB, Int.reduceLE, Int.reduceLT, Int.reduceToNat, Nat.reduceAdd, Nat.reduceEqDiff, Nat.reduceLT, Nat.reduceLeDiff, Nat.reduceMul, Nat.reduceSub, reduceCtorEq, tbAKg0, Try.results9, g12, g1, g2, g3, g4, g9, g10, g11, g13, gb, gr, h4, h10, h14, s1, s2, n220, n2200, n2201]
          refine OkF_of _ (purgeP_ok a ids ha hi0) ?_
          generalize purA a ids = u at hpc hps hpf
          simp only [↓rA, rB, Int.reduceLE, Int.reduceLT, Int.reduceToNat, Nat.reduceAdd, Nat.reduceEqDiff, Nat.reduceLT, Nat.reduceLeDiff, Nat.reduceMul, Nat.reduceSub, reduceCtorEq, tbAKg0, Try.results9, g12, g1, g2, g3, g4, g9, g10, g11, g13, gb, gr, h4, h10, h14]
          refine fun b16 h16 => ?_; replace h16 := newb h16; try simp only [Nb] at h16
          simp only [↓rA, rB, Int.reduceLE, Int.reduceLT, Int.reduceToNat, Nat.reduceAdd, Nat.reduceEqDiff, Nat.reduceLT, Nat.reduceLeDiff, Nat.reduceMul, Nat.reduceSub, reduceCtorEq, tbAKg0, Try.results9, g12, g1, g2, g3, g4, g9, g10, g11, g13, gb, gr, h4, h10, h14, h16]
          refine OkF_of _ (check27_ok u hpf) ?_
          rw [hpc]
          simp only [↓rA, rB, Int.reduceLE, Int.reduceLT, Int.reduceToNat, Nat.reduceAdd, Nat.reduceEqDiff, Nat.reduceLT, Nat.reduceLeDiff, Nat.reduceMul, Nat.reduceSub, reduceCtorEq, tbAKg0, Try.results9, g12, g1, g2, g3, g4, g9, g10, g11, g13, gb, gr, h4, h10, h14, h16, hps]
          exact ret_done rfl
        · rw [adv_in (by omega) (by omega)]
          have hc := hAc (by omega) (by omega) (advD_ge _ _)
          have hsf := fit_of (s := since) (ha.2.adv since)
          have hss : (ofM since (advD since (allD a.groups))).since = since := rfl
          generalize ofM since (advD since (allD a.groups)) = w at hc hsf hss
          simp only [↓rA, rB, Int.reduceLE, Int.reduceLT, Int.reduceToNat, Nat.reduceAdd, Nat.reduceEqDiff, Nat.reduceLT, Nat.reduceLeDiff, Nat.reduceMul, Nat.reduceSub, reduceCtorEq, tbAKg0, Try.results9, g12, g1, g2, g3, g4, g9, g10, g11, g13, gb, gr, h4, h10]
          refine fun b14 h14 => ?_; replace h14 := newb h14; try simp only [Nb] at h14
          simp only [↓rA, rB, Int.reduceLE, Int.reduceLT, Int.reduceToNat, Nat.reduceAdd, Nat.reduceEqDiff, Nat.reduceLT, Nat.reduceLeDiff, Nat.reduceMul, Nat.reduceSub, reduceCtorEq, tbAKg0, Try.results9, g12, g1, g2, g3, g4, g9, g10, g11, g13, gb, gr, h4, h10, h14, s1, s2, n220, n01]
          refine OkF_of _ (check27_ok w hsf) ?_
          rw [hc]
          simp only [↓rA, rB, Int.reduceLE, Int.reduceLT, Int.reduceToNat, Nat.reduceAdd, Nat.reduceEqDiff, Nat.reduceLT, Nat.reduceLeDiff, Nat.reduceMul, Nat.reduceSub, reduceCtorEq, tbAKg0, Try.results9, g12, g1, g2, g3, g4, g9, g10, g11, g13, gb, gr, h4, h10, h14, hss]
          refine OkF_of _ (purgeP_ok a ids ha hi0) ?_
          generalize purA a ids = u at hpc hps hpf
          simp only [↓rA, rB, Int.reduceLE, Int.reduceLT, Int.reduceToNat, Nat.reduceAdd, Nat.reduceEqDiff, Nat.reduceLT, Nat.reduceLeDiff, Nat.reduceMul, Nat.reduceSub, reduceCtorEq, tbAKg0, Try.results9, g12, g1, g2, g3, g4, g9, g10, g11, g13, gb, gr, h4, h10, h14]
          refine fun b16 h16 => ?_; replace h16 := newb h16; try simp only [Nb] at h16
          simp only [↓rA, rB, Int.reduceLE, Int.reduceLT, Int.reduceToNat, Nat.reduceAdd, Nat.reduceEqDiff, Nat.reduceLT, Nat.reduceLeDiff, Nat.reduceMul, Nat.reduceSub, reduceCtorEq, tbAKg0, Try.results9, g12, g1, g2, g3, g4, g9, g10, g11, g13, gb, gr, h4, h10, h14, h16]
          refine OkF_of _ (check27_ok u hpf) ?_
          rw [hpc]
          simp only [↓rA, rB, Int.reduceLE, Int.reduceLT, Int.reduceToNat, Nat.reduceAdd, Nat.reduceEqDiff, Nat.reduceLT, Nat.reduceLeDiff, Nat.reduceMul, Nat.reduceSub, reduceCtorEq, tbAKg0, Try.results9, g12, g1, g2, g3, g4, g9, g10, g11, g13, gb, gr, h4, h10, h14, h16, hps]
          exact ret_done rfl
end Go.Proofs.Ytopfanlkbepemaa

/- Arrangements: what comes in: arrangements, differences, identifiers out of typed cells; how much they hold. -/
set_option linter.unusedSimpArgs false
set_option maxRecDepth 100000
namespace Go.Proofs.Ytopfanlkbepemaa
open Go.VL Go.Ar Go.Proofs.Ytopfanlkbepemaa

theorem LeL_ats {w : World} {I : Cells} {b : Nat} : ∀ {l l' : List V} {o : Nat}, LeL l l' → V.ats w I l b o → V.ats w I l' b o
  | _, _, _, .nil, _ => by simp only [V.ats]
  | _, _, o, .cons h r, ha => by
    simp only [V.ats] at ha ⊢
    obtain ⟨⟨x, h1, h2, h3, h4⟩, h5⟩ := ha
    exact ⟨⟨x, h1, h2, h3, h w I x h4⟩, LeL_ats r h5⟩
theorem LeL_len : ∀ {l l' : List V}, LeL l l' → l.length = l'.length
  | _, _, .nil => rfl
  | _, _, .cons _ r => by simp [LeL_len r]
inductive LeLL : List (List V) → List (List V) → Prop
  | nil : LeLL [] []
  | cons {e e' : List V} {l l' : List (List V)} (h : LeL e e') (r : LeLL l l') : LeLL (e :: l) (e' :: l')
theorem LeLL.len : ∀ {l l' : List (List V)}, LeLL l l' → l.length = l'.length
  | _, _, .nil => rfl
  | _, _, .cons _ r => by simp [r.len]
theorem LeLL.lies {w : World} {I : Cells} {b k : Nat} : ∀ {l l' : List (List V)} {o : Nat}, LeLL l l' → V.lies w I k l b o → V.lies w I k l' b o
  | _, _, _, .nil, _ => by simp only [V.lies]
  | _, _, o, .cons h r, ha => by
    simp only [V.lies] at ha ⊢
    exact ⟨LeL_ats h ha.1, LeL_len h ▸ ha.2.1, r.lies ha.2.2⟩
theorem Le.lists {own : Option Value} {k : Nat} {es es' : List (List V)} (h : LeLL es es') : Le (.list own k es) (.list none k es') := by
  intro w I x hx
  simp only [V.rep] at hx ⊢
  obtain ⟨_, a, c, h1, h2, h3⟩ := hx
  refine ⟨fun y hy => (by cases hy), a, c, h.len ▸ h1, h.len ▸ h2, ?_⟩
  rcases h3 with e | ⟨b, o, e, hl⟩
  · subst e
    cases h
    exact .inl rfl
  · exact .inr ⟨b, o, e, h.lies hl⟩

theorem bulks_pos : ∀ vs : List V, vs.length ≤ V.bulks vs
  | [] => Nat.zero_le _
  | v :: r => by
    have := bulks_pos r
    have h1 : 1 ≤ V.bulk v := by
      cases v with
      | lit x => cases x <;> simp [V.bulk]
      | list a k es => simp [V.bulk]
      | _ => simp [V.bulk]
    simp only [V.bulks, List.length_cons]; omega

/-- The elements of a slice that came in. -/
theorem inv_slice {α : Type} {t e : TypeId} {k : Nat} (hu : Try.prog.underlying t = some (.slice e)) (hk : Try.prog.cellsOf e = k) (c : α → List V) (G : α → Nat → Prop) (wt : α → Nat) (m : Nat)
    (inv : ∀ {d vs}, TV Try.prog d e vs → ∃ x, LeL vs (c x) ∧ G x (V.bulks vs) ∧ wt x ≤ m * V.bulks vs) (mono : ∀ x n n', n ≤ n' → G x n → G x n') (pos : ∀ x, 0 < (c x).length) {d : Nat} {v : V} (h : TV Try.prog d t [v]) :
    ∃ l : List α, Le v (.list none k (l.map c)) ∧ l.length ≤ V.bulk v ∧ (l.map wt).sum ≤ m * V.bulk v ∧ ∀ x ∈ l, G x (V.bulk v) := by
  cases d with
  | zero => exact h.elim
  | succ d =>
    simp only [TV, hu] at h
    rcases h with h | ⟨es, h, hmax, hes⟩
    · cases h
      exact ⟨[], Le.nil k, Nat.zero_le _, Nat.zero_le _, fun x hx => by cases hx⟩
    · rw [hk] at h
      cases h
      clear hmax
      have : ∃ l : List α, LeLL es (l.map c) ∧ l.length ≤ V.bulkss es ∧ (l.map wt).sum ≤ m * V.bulkss es ∧ ∀ x ∈ l, G x (V.bulkss es) := by
        induction es with
        | nil => exact ⟨[], .nil, Nat.zero_le _, Nat.zero_le _, fun x hx => by cases hx⟩
        | cons y es ih =>
          obtain ⟨x, h1, h2, h3⟩ := inv (hes y List.mem_cons_self)
          obtain ⟨l, g1, g2, g3, g4⟩ := ih fun z hz => hes z (List.mem_cons_of_mem _ hz)
          have hp := bulks_pos y
          rw [LeL_len h1] at hp
          have := pos x
          refine ⟨x :: l, .cons h1 g1, ?_, ?_, ?_⟩
          · simp only [List.length_cons, V.bulkss]; omega
          · simp only [List.map_cons, List.sum_cons, V.bulkss, Nat.mul_add]; omega
          · intro z hz
            rcases List.mem_cons.1 hz with rfl | hz
            · exact mono _ _ _ (by simp only [V.bulkss]; omega) h2
            · exact mono _ _ _ (by simp only [V.bulkss]; omega) (g4 z hz)
      obtain ⟨l, g1, g2, g3, g4⟩ := this
      have hb : V.bulk (.list none k es) = V.bulkss es + 1 := by simp [V.bulk]
      refine ⟨l, Le.lists g1, by omega, ?_, fun x hx => mono _ _ _ (by omega) (g4 x hx)⟩
      rw [hb, Nat.mul_add]; omega

theorem inv_int {d : Nat} {v : List V} (h : TV Try.prog d 3 v) : ∃ n, v = [vint n] ∧ inR n := by
  cases d with
  | zero => exact h.elim
  | succ d =>
    simp only [TV, Ty.un3] at h
    obtain ⟨n, rfl, hw⟩ := h
    refine ⟨n, rfl, ?_⟩
    simp only [Lit.wf, Bool.and_eq_true, decide_eq_true_eq] at hw
    have h1 : IntKind.i64.min = -9223372036854775808 := by decide
    have h2 : IntKind.i64.max = 9223372036854775807 := by decide
    unfold inR; omega
theorem inv_str {d : Nat} {v : List V} (h : TV Try.prog d 9 v) : ∃ s : Str, v = [vstr s] ∧ s.size ≤ maxLen := by
  cases d with
  | zero => exact h.elim
  | succ d =>
    simp only [TV, Ty.un9] at h
    exact h
theorem inv_fid {d : Nat} {vs : List V} (h : TV Try.prog d 53 vs) : ∃ i : FID, vs = cFID i := by
  cases d with
  | zero => exact h.elim
  | succ d =>
    simp only [TV, Try.underlying53, TVF] at h
    obtain ⟨x, y, rfl, hx, y1, y2, rfl, hy, rfl⟩ := h
    obtain ⟨s, rfl, _⟩ := inv_str hx
    obtain ⟨n, rfl, _⟩ := inv_int hy
    exact ⟨⟨s, n⟩, rfl⟩
theorem encV_size (v : Val) : (encV v).length = 24 + v.s.size := by
  simp only [encV, List.length_append, bytes8_len, strB_len]
theorem inv_val {d : Nat} {vs : List V} (h : TV Try.prog d 109 vs) : ∃ v : Val, LeL vs (cVal v) ∧ okV v ∧ (encV v).length ≤ 8 * V.bulks vs := by
  cases d with
  | zero => exact h.elim
  | succ d =>
    simp only [TV, Try.underlying109, TVF] at h
    obtain ⟨x, y, rfl, hx, y1, y2, rfl, hy, z1, z2, rfl, hz, rfl⟩ := h
    obtain ⟨k, rfl, hk⟩ := inv_int hx
    obtain ⟨n, rfl, hn⟩ := inv_int hy
    obtain ⟨s, rfl, hs⟩ := inv_str hz
    refine ⟨⟨k, n, s⟩, LeL.refl _, ⟨hk, hn, ?_⟩, ?_⟩
    · have : maxLen < 9223372036854775808 := by decide
      simp only; omega
    · rw [encV_size]
      simp only [List.cons_append, List.nil_append, V.bulks, V.bulk]
      omega
def gR (r : Rw) (n : Nat) : Prop := okR r ∧ r.fields.length ≤ n ∧ (encL r.fields).length ≤ 8 * n
theorem gR.mono {r : Rw} {n n' : Nat} (h : n ≤ n') (hg : gR r n) : gR r n' := ⟨hg.1, by have := hg.2.1; omega, by have := hg.2.2; omega⟩
theorem encL_sum (l : List Val) : (encL l).length = (l.map fun v => (encV v).length).sum := by
  induction l with
  | nil => rfl
  | cons v l ih => simp only [encL, List.flatMap_cons, List.length_append, List.map_cons, List.sum_cons] at ih ⊢; omega
theorem inv_row {d : Nat} {vs : List V} (h : TV Try.prog d 56 vs) : ∃ r : Rw, LeL vs (cRow r) ∧ gR r (V.bulks vs) := by
  cases d with
  | zero => exact h.elim
  | succ d =>
    simp only [TV, Try.underlying56, TVF] at h
    obtain ⟨x1, y1, rfl, h1, x2, y2, rfl, h2, x3, y3, rfl, h3, x4, y4, rfl, h4, x5, y5, rfl, h5, x6, y6, rfl, h6, x7, y7, rfl, h7, rfl⟩ := h
    obtain ⟨i, rfl⟩ := inv_fid h1
    obtain ⟨t, rfl, _⟩ := inv_str h2
    obtain ⟨k, rfl, _⟩ := inv_str h3
    obtain ⟨e, rfl, _⟩ := inv_int h4
    obtain ⟨no, rfl, _⟩ := inv_int h6
    obtain ⟨tk, rfl, _⟩ := inv_int h7
    have h5l : ∃ v, x5 = [v] := by
      cases d with
      | zero => exact h5.elim
      | succ d =>
        simp only [TV, Try.underlying54] at h5
        rcases h5 with h5 | ⟨es, h5, _⟩
        · exact ⟨_, h5⟩
        · exact ⟨_, h5⟩
    obtain ⟨v, rfl⟩ := h5l
    obtain ⟨l, g1, g2, g3, g4⟩ := inv_slice Try.underlying54 (by kernel_rfl : Try.prog.cellsOf 109 = 3) cVal (fun x _ => okV x) (fun x => (encV x).length) 8 (fun h => by obtain ⟨x, a, b, c⟩ := inv_val h; exact ⟨x, a, b, c⟩) (fun _ _ _ _ h => h) (fun _ => Nat.succ_pos _) h5
    refine ⟨⟨i, t, k, e, l, no, tk⟩, ?_, g4, ?_, ?_⟩
    · exact .cons (Le.refl _) (.cons (Le.refl _) (.cons (Le.refl _) (.cons (Le.refl _) (.cons (Le.refl _) (.cons g1 (LeL.refl _))))))
    · simp only [List.cons_append, List.nil_append, List.append_nil, V.bulks]; omega
    · rw [encL_sum]
      simp only [List.cons_append, List.nil_append, List.append_nil, V.bulks]; omega
def gD (x : Dlt) (n : Nat) : Prop := inR x.n ∧ gR x.row n
theorem gD.mono {x : Dlt} {n n' : Nat} (h : n ≤ n') (hg : gD x n) : gD x n' := ⟨hg.1, hg.2.mono h⟩
theorem LeL_append : ∀ {l l' m m' : List V}, LeL l l' → LeL m m' → LeL (l ++ m) (l' ++ m')
  | _, _, _, _, .nil, h => h
  | _, _, _, _, .cons h r, h' => .cons h (LeL_append r h')
theorem inv_dlt {d : Nat} {vs : List V} (h : TV Try.prog d 61 vs) : ∃ x : Dlt, LeL vs (cDlt x) ∧ gD x (V.bulks vs) := by
  cases d with
  | zero => exact h.elim
  | succ d =>
    simp only [TV, Try.underlying61, TVF] at h
    obtain ⟨x1, y1, rfl, h1, x2, y2, rfl, h2, x3, y3, rfl, h3, rfl⟩ := h
    obtain ⟨r, hr, hg⟩ := inv_row h1
    obtain ⟨t, rfl, _⟩ := inv_int h2
    obtain ⟨n, rfl, hn⟩ := inv_int h3
    refine ⟨⟨r, t, n⟩, LeL_append hr (LeL.refl _), hn, hg.mono ?_⟩
    rw [bulks_append]; omega
theorem inv_dlts {d : Nat} {v : V} (h : TV Try.prog d 41 [v]) : ∃ l : List Dlt, Le v (vDlts l) ∧ l.length ≤ V.bulk v ∧ ∀ x ∈ l, gD x (V.bulk v) := by
  obtain ⟨l, g1, g2, _, g4⟩ := inv_slice Try.underlying41 (by kernel_rfl : Try.prog.cellsOf 61 = 10) cDlt gD (fun _ => 0) 0 (fun h => by obtain ⟨x, a, b⟩ := inv_dlt h; exact ⟨x, a, b, Nat.zero_le _⟩) (fun _ _ _ h hg => hg.mono h) (fun _ => Nat.succ_pos _) h
  exact ⟨l, g1, g2, g4⟩
def gG (g : Grp) (n : Nat) : Prop := ∀ x ∈ g.ds, gD x n
theorem one_slice {d : Nat} {t e : TypeId} {vs : List V} (hu : Try.prog.underlying t = some (.slice e)) (h : TV Try.prog d t vs) : ∃ v, vs = [v] := by
  cases d with
  | zero => exact h.elim
  | succ d =>
    simp only [TV, hu] at h
    rcases h with h | ⟨es, h, _⟩
    · exact ⟨_, h⟩
    · exact ⟨_, h⟩
theorem inv_grp {d : Nat} {vs : List V} (h : TV Try.prog d 65 vs) : ∃ g : Grp, LeL vs (cGrp g) ∧ gG g (V.bulks vs) ∧ g.ds.length ≤ 1 * V.bulks vs := by
  cases d with
  | zero => exact h.elim
  | succ d =>
    simp only [TV, Try.underlying65, TVF] at h
    obtain ⟨x1, y1, rfl, h1, x2, y2, rfl, h2, rfl⟩ := h
    obtain ⟨k, rfl, _⟩ := inv_str h1
    obtain ⟨v, rfl⟩ := one_slice Try.underlying41 h2
    obtain ⟨l, g1, g2, g3⟩ := inv_dlts h2
    refine ⟨⟨k, l⟩, .cons (Le.refl _) (.cons g1 .nil), fun x hx => (g3 x hx).mono ?_, ?_⟩
    · simp only [List.cons_append, List.nil_append, V.bulks]; omega
    · simp only [List.cons_append, List.nil_append, V.bulks]; omega
theorem allD_sum (l : List Grp) : (allD l).length = (l.map fun g => g.ds.length).sum := by
  induction l with
  | nil => rfl
  | cons g l ih => rw [allD_cons, List.length_append, List.map_cons, List.sum_cons, ih]
theorem inv_arr {d : Nat} {a : V} (h : TA Try.prog d 24 a) : ∃ A : Arr, Le a (vArr A) ∧ A.groups.length ≤ V.bulkA a ∧ (allD A.groups).length ≤ V.bulkA a ∧ ∀ x ∈ allD A.groups, gD x (V.bulkA a) := by
  unfold TA at h
  simp only [Ty.ag24] at h
  obtain ⟨vs, rfl, h⟩ := h
  cases d with
  | zero => exact h.elim
  | succ d =>
    simp only [TV, Try.underlying24, TVF] at h
    obtain ⟨x1, y1, rfl, h1, x2, y2, rfl, h2, rfl⟩ := h
    obtain ⟨s, rfl, _⟩ := inv_int h1
    obtain ⟨v, rfl⟩ := one_slice Try.underlying22 h2
    obtain ⟨l, g1, g2, g3, g4⟩ := inv_slice Try.underlying22 (by kernel_rfl : Try.prog.cellsOf 65 = 2) cGrp gG (fun g => g.ds.length) 1 inv_grp (fun _ _ _ h hg x hx => (hg x hx).mono h) (fun _ => Nat.succ_pos _) h2
    have hb : V.bulkA (.agg ([vint s] ++ ([v] ++ []))) = 1 + V.bulk v := by simp only [V.bulkA, List.cons_append, List.nil_append, V.bulks, V.bulk]; omega
    rw [hb]
    refine ⟨⟨s, l⟩, Le.agg (.cons (Le.refl _) (.cons g1 .nil)), by simp only; omega, by simp only; rw [allD_sum]; omega, fun x hx => ?_⟩
    obtain ⟨g, hg, hx⟩ := List.mem_flatMap.1 hx
    exact (g4 g hg x hx).mono (by omega)
theorem gD.fit {x : Dlt} {n : Nat} (h : gD x n) (hn : n ≤ 1048576) : inR x.n ∧ fitR x.row := by
  refine ⟨h.1, ?_, ?_, h.2.1⟩
  · have := h.2.2.1; unfold big; omega
  · have := h.2.2.2; omega
theorem in_arr {d : Nat} {a : V} (h : TA Try.prog d 24 a) (hb : V.bulkA a ≤ 1048576) : ∃ A : Arr, Le a (vArr A) ∧ fitA A := by
  obtain ⟨A, h1, h2, h3, h4⟩ := inv_arr h
  exact ⟨A, h1, by unfold big; omega, by unfold big; omega, fun x hx => (h4 x hx).fit hb⟩
theorem in_dlts {d : Nat} {a : V} (h : TA Try.prog d 41 a) (hb : V.bulkA a ≤ 1048576) : ∃ l : List Dlt, Le a (vDlts l) ∧ fitDs l := by
  unfold TA at h
  simp only [Ty.ag41] at h
  obtain ⟨l, h1, h2, h3⟩ := inv_dlts h
  have hbb : V.bulk a ≤ V.bulkA a := by
    cases a with
    | agg vs => cases d with
      | zero => exact h.elim
      | succ d =>
        simp only [TV, Try.underlying41] at h
        rcases h with h | ⟨es, h, _⟩ <;> cases h
    | _ => exact Nat.le_refl _
  exact ⟨l, h1, by unfold big; omega, fun x hx => (h3 x hx).fit (by omega)⟩
theorem in_ids {d : Nat} {a : V} (h : TA Try.prog d 47 a) (hb : V.bulkA a ≤ 1048576) : ∃ l : List FID, Le a (vFIDs l) ∧ l.length ≤ 1048576 := by
  unfold TA at h
  simp only [Ty.ag47] at h
  have hbb : V.bulk a ≤ V.bulkA a := by
    cases a with
    | agg vs => cases d with
      | zero => exact h.elim
      | succ d =>
        simp only [TV, Try.underlying47] at h
        rcases h with h | ⟨es, h, _⟩ <;> cases h
    | _ => exact Nat.le_refl _
  obtain ⟨l, g1, g2, _, _⟩ := inv_slice Try.underlying47 (by kernel_rfl : Try.prog.cellsOf 53 = 2) cFID (fun _ _ => True) (fun _ => 0) 0 (fun h => by obtain ⟨x, rfl⟩ := inv_fid h; exact ⟨x, LeL.refl _, trivial, Nat.zero_le _⟩) (fun _ _ _ _ h => h) (fun _ => Nat.succ_pos _) h
  exact ⟨l, g1, by omega⟩
theorem in_int {d : Nat} {a : V} (h : TA Try.prog d 3 a) : ∃ n, a = vint n := by
  unfold TA at h
  simp only [Ty.ag3] at h
  obtain ⟨n, e, _⟩ := inv_int h
  cases e; exact ⟨n, rfl⟩
theorem in_str {d : Nat} {a : V} (h : TA Try.prog d 9 a) : ∃ s, a = vstr s := by
  unfold TA at h
  simp only [Ty.ag9] at h
  obtain ⟨n, e, _⟩ := inv_str h
  cases e; exact ⟨n, rfl⟩
theorem in_ival {d : Nat} {a : V} (h : TA Try.prog d 26 a) : ∃ lo hi, a = .agg [vint lo, vint hi] := by
  unfold TA at h
  simp only [Ty.ag26] at h
  obtain ⟨vs, rfl, h⟩ := h
  cases d with
  | zero => exact h.elim
  | succ d =>
    simp only [TV, Try.underlying26, TVF] at h
    obtain ⟨x, y, rfl, hx, y1, y2, rfl, hy, rfl⟩ := h
    obtain ⟨k, rfl, _⟩ := inv_int hx
    obtain ⟨s, rfl, _⟩ := inv_int hy
    exact ⟨k, s, rfl⟩
theorem bulkAs_mem : ∀ {zs : List V} {a : V}, a ∈ zs → V.bulkA a ≤ V.bulkAs zs
  | b :: r, a, h => by
    rcases List.mem_cons.1 h with rfl | h
    · simp only [V.bulkAs]; omega
    · have := bulkAs_mem h; simp only [V.bulkAs]; omega

/-! ### The bulk that the rows speak of -/
mutual
theorem bulk_eq {H : Type} : ∀ d : DataW H, Rows.uptoBulk d = bulkD d
  | .lit (.string b) => by simp only [Rows.uptoBulk, bulkD]
  | .lit (.int _ _) => by simp only [Rows.uptoBulk, bulkD]
  | .lit (.bool _) => by simp only [Rows.uptoBulk, bulkD]
  | .lit (.float _ _) => by simp only [Rows.uptoBulk, bulkD]
  | .lit .nil => by simp only [Rows.uptoBulk, bulkD]
  | .nil => by simp only [Rows.uptoBulk, bulkD]
  | .ptr d => by simp only [Rows.uptoBulk, bulkD, bulk_eq d]
  | .slice es sp => by simp only [Rows.uptoBulk, bulkD, bulks_eq es, bulks_eq sp]
  | .agg ps => by simp only [Rows.uptoBulk, bulkD, bulks_eq ps]
  | .iface _ d => by simp only [Rows.uptoBulk, bulkD, bulk_eq d]
  | .map es => by simp only [Rows.uptoBulk, bulkD, bulke_eq es]
  | .held _ => by simp only [Rows.uptoBulk, bulkD]
theorem bulks_eq {H : Type} : ∀ ds : List (DataW H), Rows.uptoBulkAll ds = bulkDs ds
  | [] => by simp only [Rows.uptoBulkAll, bulkDs]
  | d :: r => by simp only [Rows.uptoBulkAll, bulkDs, bulk_eq d, bulks_eq r]
theorem bulke_eq {H : Type} : ∀ es : List (Lit × DataW H), Rows.uptoBulkEntries es = bulkDe es
  | [] => by simp only [Rows.uptoBulkEntries, bulkDe]
  | x :: r => by simp only [Rows.uptoBulkEntries, bulkDe, bulkx_eq x, bulke_eq r]
theorem bulkx_eq {H : Type} : ∀ x : Lit × DataW H, Rows.uptoBulkEntry x = bulkDx x
  | (.string b, d) => by simp only [Rows.uptoBulkEntry, bulkDx, bulk_eq d]
  | (.int _ _, d) => by simp only [Rows.uptoBulkEntry, bulkDx, bulk_eq d]
  | (.bool _, d) => by simp only [Rows.uptoBulkEntry, bulkDx, bulk_eq d]
  | (.float _ _, d) => by simp only [Rows.uptoBulkEntry, bulkDx, bulk_eq d]
  | (.nil, d) => by simp only [Rows.uptoBulkEntry, bulkDx, bulk_eq d]
end
end Go.Proofs.Ytopfanlkbepemaa

