/- Merged out of my texts AGl AGm AIc AJb AK AL AKb AKc AKd. -/
import Derived.Test.YtopfanlkbepemaaKc
import Derived.Test.YtopfanlkbepemaaVG
import Derived.Test.YtopfanlkbepemaaRows
import Derived.ProofKit
import Derived.JoinedCond
set_option linter.unusedVariables false
/- Arrangements: contracts, part p: slices.Insert anywhere; the place of a key, made where there is none. -/
set_option linter.unusedSimpArgs false
set_option maxRecDepth 100000
namespace Go.Proofs.Ytopfanlkbepemaa
open Go.VL Go.Ar Go.Proofs.Ytopfanlkbepemaa
-- @call 60

/-- What at hands back: the cells of the index, with the place of the key. -/
def AtQ (l : List GI) (key : Str) (bi : Nat) (v : V) (bs : List (Nat × B)) : Prop :=
  ∃ (b c : Nat) (L1 L2 : List GI) (D : V) (rest : List V), v = .lit (.pointer (some ⟨b, L1.length * 2, none⟩)) ∧
    bs = [(bi, .c [.lit (.slice (some ⟨b, 0, none⟩) (L1.length + 1 + L2.length) c), keyFn]), (b, .c ((L1.map cGI).flatten ++ vstr key :: D :: ((L2.map cGI).flatten ++ rest)))] ∧
    L1.length + 1 + L2.length ≤ c ∧ rest.length = (c - (L1.length + 1 + L2.length)) * 2 ∧ b ≠ bi ∧
    ((∃ y ds, D = .list (some y) 10 (ds.map cDlt) ∧ l = L1 ++ (key, y, ds) :: L2) ∨ (D = nilS ∧ l = L1 ++ L2 ∧ (∀ p ∈ L1, less p.1 key = true) ∧ ∀ p ∈ L2, less key p.1 = true))

theorem Ok.permB {P : Program} {f : FuncId} {args : List V} {bs0 : List (Nat × B)} {Q Q' : V → List (Nat × B) → List VL.Row → Prop} (h : Ok P f args bs0 Q) (hq : ∀ v bs rs, Q v bs rs → ∃ bs', bs.Perm bs' ∧ Q' v bs' rs) : Ok P f args bs0 Q' := by
  intro w I xs hr hH
  refine (h w I xs hr hH).mono fun e w' ⟨x, v, bs, rs, I', he, hv, hk, hh, hn, hQ⟩ => ?_
  obtain ⟨bs', hp, hQ'⟩ := hq _ _ _ hQ
  exact ⟨x, v, bs', rs, I', he, hv, hk, hh.perm hp, fun b hb => hn b (((List.Perm.append_right _ (hp.map _)).mem_iff).2 hb), hQ'⟩
set_option linter.defProp false in
def tbAGl0 := (And.intro (And.intro (And.intro (And.intro (And.intro (And.intro Ty.sz3 (And.intro Ty.by3 Ty.ag3)) (And.intro (And.intro Ty.zr3 Ty.un3) (And.intro Ty.sz4 Ty.by4))) (And.intro (And.intro Ty.ag4 (And.intro Ty.zr4 Ty.un4)) (And.intro (And.intro Ty.sz9 Ty.by9) (And.intro Ty.ag9 Ty.zr9)))) (And.intro (And.intro (And.intro Ty.un9 (And.intro Ty.sz22 Ty.by22)) (And.intro (And.intro Ty.ag22 Ty.zr22) (And.intro Ty.un22 Ty.sz41))) (And.intro (And.intro Ty.by41 (And.intro Ty.ag41 Ty.zr41)) (And.intro (And.intro Ty.un41 Ty.sz53) (And.intro Ty.by53 Ty.ag53))))) (And.intro (And.intro (And.intro (And.intro Ty.zr53 (And.intro Ty.fl53_0 Ty.pl53_0)) (And.intro (And.intro Ty.fl53_1 Ty.pl53_1) (And.intro Ty.sz54 Ty.by54))) (And.intro (And.intro Ty.ag54 (And.intro Ty.zr54 Ty.un54)) (And.intro (And.intro Ty.sz56 Ty.by56) (And.intro Ty.ag56 Ty.zr56)))) (And.intro (And.intro (And.intro Ty.fl56_0 (And.intro Ty.pl56_0 Ty.fl56_1)) (And.intro (And.intro Ty.pl56_1 Ty.fl56_2) (And.intro Ty.pl56_2 Ty.fl56_3))) (And.intro (And.intro (And.intro Ty.pl56_3 Ty.fl56_4) (And.intro Ty.pl56_4 Ty.fl56_5)) (And.intro (And.intro Ty.pl56_5 Ty.fl56_6) (And.intro Ty.pl56_6 Ty.sz61)))))) (And.intro (And.intro (And.intro (And.intro (And.intro Ty.by61 (And.intro Ty.ag61 Ty.zr61)) (And.intro (And.intro Ty.fl61_0 Ty.pl61_0) (And.intro Ty.fl61_1 Ty.pl61_1))) (And.intro (And.intro Ty.fl61_2 (And.intro Ty.pl61_2 Ty.sz65)) (And.intro (And.intro Ty.by65 Ty.ag65) (And.intro Ty.zr65 Ty.fl65_0)))) (And.intro (And.intro (And.intro Ty.pl65_0 (And.intro Ty.fl65_1 Ty.pl65_1)) (And.intro (And.intro Ty.sz68 Ty.by68) (And.intro Ty.ag68 Ty.zr68))) (And.intro (And.intro Ty.un68 (And.intro Ty.sz70 Ty.by70)) (And.intro (And.intro Ty.ag70 Ty.sz73) (And.intro Ty.by73 Ty.ag73))))) (And.intro (And.intro (And.intro (And.intro Ty.zr73 (And.intro Ty.sz75 Ty.by75)) (And.intro (And.intro Ty.ag75 Ty.zr75) (And.intro Ty.fl75_0 Ty.pl75_0))) (And.intro (And.intro Ty.fl75_1 (And.intro Ty.pl75_1 Ty.sz86)) (And.intro (And.intro Ty.by86 Ty.ag86) (And.intro Ty.zr86 Ty.un86)))) (And.intro (And.intro (And.intro Ty.sz109 (And.intro Ty.by109 Ty.ag109)) (And.intro (And.intro Ty.zr109 Ty.fl109_0) (And.intro Ty.pl109_0 Ty.fl109_1))) (And.intro (And.intro (And.intro Ty.pl109_1 Ty.fl109_2) (And.intro Ty.pl109_2 Ty.eq53)) (And.intro (And.intro Ty.eq109 Ty.cb37) (And.intro Ty.cb60 Ty.cb77)))))))
theorem atNil_ok (key : Str) (bi : Nat) : Ok Try.prog 56 [ptr bi, vstr key, .agg [vstr key, nilS]] [(bi, .c [nilS, keyFn])] fun v bs rs => rs = [] ∧ AtQ [] key bi v bs := by
  refine Ok.permB (Q := fun v bs rs => rs = [] ∧ ∃ bs', bs.Perm bs' ∧ AtQ [] key bi v bs') ?_ (fun v bs rs ⟨h1, bs', hp, h⟩ => ⟨bs', hp, h1, h⟩)
  refine Ok.of_exM [(3, 4)] Ty.mixed Try.func56 rfl (by simp [Try.ntmps56]) (by kernel_rfl) fun F w0 I0 => ?_
  simp only [↓ruleA0, ↓ruleA1, ↓ruleA2, ruleB0, ruleB1, ruleB2, ruleB3, ruleL, ↓retK, ncall, Todo_eq, packV, eqTB, litB, litV, fitL, fit, veqL, veq, sbin, sun, nilB, cellsV, oneB, okC, vals, fillV, partsE, Int.reduceLE, Int.reduceLT, Int.reduceToNat, Nat.reduceAdd, Nat.reduceEqDiff, Nat.reduceLT, Nat.reduceLeDiff, Nat.reduceMul, Nat.reduceSub, reduceCtorEq, tbAGl0, Try.results56]
  refine fun bf hf => ?_; replace hf := newb hf; try simp only [Nb] at hf
  simp only [↓ruleA0, ↓ruleA1, ↓ruleA2, ruleB0, ruleB1, ruleB2, ruleB3, ruleL, ↓retK, ncall, Todo_eq, packV, eqTB, litB, litV, fitL, fit, veqL, veq, sbin, sun, nilB, cellsV, oneB, okC, vals, fillV, partsE, Int.reduceLE, Int.reduceLT, Int.reduceToNat, Nat.reduceAdd, Nat.reduceEqDiff, Nat.reduceLT, Nat.reduceLeDiff, Nat.reduceMul, Nat.reduceSub, reduceCtorEq, tbAGl0, Try.results56, hf]
  refine OkF_with [_] [_] (List.perm_append_comm (l₁ := [_]) (l₂ := [_])) (placeNil_ok key bi) ?_
  rintro v bs rs ⟨rfl, rfl, rfl⟩
  simp only [↓ruleA0, ↓ruleA1, ↓ruleA2, ruleB0, ruleB1, ruleB2, ruleB3, ruleL, ↓retK, ncall, Todo_eq, packV, eqTB, litB, litV, fitL, fit, veqL, veq, sbin, sun, nilB, cellsV, oneB, okC, vals, fillV, partsE, Int.reduceLE, Int.reduceLT, Int.reduceToNat, Nat.reduceAdd, Nat.reduceEqDiff, Nat.reduceLT, Nat.reduceLeDiff, Nat.reduceMul, Nat.reduceSub, reduceCtorEq, tbAGl0, Try.results56, hf]
  refine fun y => ?_
  refine OkF_withN [] [_, _] (List.Perm.refl _) (insNil_ok [vstr key, nilS] (some y)) ?_
  rintro v bs rs ⟨rfl, b, c, hc, rfl, rfl⟩ hnd
  simp only [List.map_cons, List.map_nil, List.nodup_cons, List.mem_cons, List.not_mem_nil, or_false, not_or, List.cons_append, List.nil_append] at hnd
  have n1 : b ≠ bi := hnd.1.1
  have n2 : b ≠ bf := hnd.1.2
  simp only [↓ruleA0, ↓ruleA1, ↓ruleA2, ruleB0, ruleB1, ruleB2, ruleB3, ruleL, ↓retK, ncall, Todo_eq, packV, eqTB, litB, litV, fitL, fit, veqL, veq, sbin, sun, nilB, cellsV, oneB, okC, vals, fillV, partsE, Int.reduceLE, Int.reduceLT, Int.reduceToNat, Nat.reduceAdd, Nat.reduceEqDiff, Nat.reduceLT, Nat.reduceLeDiff, Nat.reduceMul, Nat.reduceSub, reduceCtorEq, tbAGl0, Try.results56, hf, n1, n2, Ne.symm n1, Ne.symm n2]
  refine ⟨_, [_, _], [], Le.refl _, List.Sublist.cons_cons _ (List.Sublist.cons_cons _ (List.nil_sublist _)), List.nil_sublist _, rfl, _, List.Perm.swap _ _ _, b, c, [], [], nilS, anys ((c - 1) * 2), rfl, ?_, hc, anys_len _, n1, .inr ⟨rfl, rfl, by simp, by simp⟩⟩
  rfl

theorem ins_ok (cs : List V) (i n c ba : Nat) (g : List V) (own : Option Value) (hg : g.length = 2) (hcs : cs.length = c * 2) (hi : i ≤ n) (hn : n ≤ c) (hnb : n ≤ big) : Ok Try.prog 77 [.lit (.slice (some ⟨ba, 0, none⟩) n c), vint i, .list own 2 [g]] [(ba, .c cs)] fun v bs rs => rs = [] ∧ ∃ b c' rest, n + 1 ≤ c' ∧ v = .lit (.slice (some ⟨b, 0, none⟩) (n + 1) c') ∧ rest.length = (c' - (n + 1)) * 2 ∧ bs = [(b, .c (cs.take (i * 2) ++ g ++ (cs.take (n * 2)).drop (i * 2) ++ rest))] := by
  rcases Nat.lt_or_ge i n with h | h
  · exact insMid_ok cs i n c ba g own hg hcs h hn hnb
  · obtain rfl : i = n := Nat.le_antisymm hi h
    refine Ok.mono (insEnd_ok cs i c ba g own hg hcs hn hnb) fun v bs rs ⟨h1, b, c', h2, h3, h4⟩ => ⟨h1, b, c', _, h2, h3, anys_len _, ?_⟩
    rw [h4, List.drop_of_length_le (by rw [List.length_take]; omega), List.append_nil]

theorem cells_split (L1 L2 : List GI) (rest : List V) : ((L1 ++ L2).map cGI).flatten ++ rest = (L1.map cGI).flatten ++ ((L2.map cGI).flatten ++ rest) := by simp
set_option linter.defProp false in
def tbAGl1 := (And.intro (And.intro (And.intro (And.intro (And.intro (And.intro Ty.sz3 (And.intro Ty.by3 Ty.ag3)) (And.intro (And.intro Ty.zr3 Ty.un3) (And.intro Ty.sz4 Ty.by4))) (And.intro (And.intro Ty.ag4 (And.intro Ty.zr4 Ty.un4)) (And.intro (And.intro Ty.sz9 Ty.by9) (And.intro Ty.ag9 Ty.zr9)))) (And.intro (And.intro (And.intro Ty.un9 (And.intro Ty.sz22 Ty.by22)) (And.intro (And.intro Ty.ag22 Ty.zr22) (And.intro Ty.un22 Ty.sz41))) (And.intro (And.intro Ty.by41 (And.intro Ty.ag41 Ty.zr41)) (And.intro (And.intro Ty.un41 Ty.sz53) (And.intro Ty.by53 Ty.ag53))))) (And.intro (And.intro (And.intro (And.intro Ty.zr53 (And.intro Ty.fl53_0 Ty.pl53_0)) (And.intro (And.intro Ty.fl53_1 Ty.pl53_1) (And.intro Ty.sz54 Ty.by54))) (And.intro (And.intro Ty.ag54 (And.intro Ty.zr54 Ty.un54)) (And.intro (And.intro Ty.sz56 Ty.by56) (And.intro Ty.ag56 Ty.zr56)))) (And.intro (And.intro (And.intro Ty.fl56_0 (And.intro Ty.pl56_0 Ty.fl56_1)) (And.intro (And.intro Ty.pl56_1 Ty.fl56_2) (And.intro Ty.pl56_2 Ty.fl56_3))) (And.intro (And.intro (And.intro Ty.pl56_3 Ty.fl56_4) (And.intro Ty.pl56_4 Ty.fl56_5)) (And.intro (And.intro Ty.pl56_5 Ty.fl56_6) (And.intro Ty.pl56_6 Ty.sz61)))))) (And.intro (And.intro (And.intro (And.intro (And.intro Ty.by61 (And.intro Ty.ag61 Ty.zr61)) (And.intro (And.intro Ty.fl61_0 Ty.pl61_0) (And.intro Ty.fl61_1 Ty.pl61_1))) (And.intro (And.intro Ty.fl61_2 (And.intro Ty.pl61_2 Ty.sz65)) (And.intro (And.intro Ty.by65 Ty.ag65) (And.intro Ty.zr65 Ty.fl65_0)))) (And.intro (And.intro (And.intro Ty.pl65_0 (And.intro Ty.fl65_1 Ty.pl65_1)) (And.intro (And.intro Ty.sz68 Ty.by68) (And.intro Ty.ag68 Ty.zr68))) (And.intro (And.intro Ty.un68 (And.intro Ty.sz70 Ty.by70)) (And.intro (And.intro Ty.ag70 Ty.sz73) (And.intro Ty.by73 Ty.ag73))))) (And.intro (And.intro (And.intro (And.intro Ty.zr73 (And.intro Ty.sz75 Ty.by75)) (And.intro (And.intro Ty.ag75 Ty.zr75) (And.intro Ty.fl75_0 Ty.pl75_0))) (And.intro (And.intro Ty.fl75_1 (And.intro Ty.pl75_1 Ty.sz86)) (And.intro (And.intro Ty.by86 Ty.ag86) (And.intro Ty.zr86 Ty.un86)))) (And.intro (And.intro (And.intro Ty.sz109 (And.intro Ty.by109 Ty.ag109)) (And.intro (And.intro Ty.zr109 Ty.fl109_0) (And.intro Ty.pl109_0 Ty.fl109_1))) (And.intro (And.intro (And.intro Ty.pl109_1 Ty.fl109_2) (And.intro Ty.pl109_2 Ty.eq53)) (And.intro (And.intro Ty.eq109 Ty.cb37) (And.intro Ty.cb60 Ty.cb77)))))))
theorem atBox_ok (l : List GI) (key : Str) (rest : List V) (ba c bi : Nat) (hl : l.length + 1 ≤ big) (hs : Sorted l) (h3 : ba ≠ bi) (hlc : l.length ≤ c) (hr : rest.length = (c - l.length) * 2) :
    Ok Try.prog 56 [ptr bi, vstr key, .agg [vstr key, nilS]] [(bi, .c [.lit (.slice (some ⟨ba, 0, none⟩) l.length c), keyFn]), (ba, .c ((l.map cGI).flatten ++ rest))] fun v bs rs => rs = [] ∧ AtQ l key bi v bs := by
  refine Ok.permB (Q := fun v bs rs => rs = [] ∧ ∃ bs', bs.Perm bs' ∧ AtQ l key bi v bs') ?_ (fun v bs rs ⟨h1, bs', hp, h⟩ => ⟨bs', hp, h1, h⟩)
  refine Ok.of_exM [(3, 4)] Ty.mixed Try.func56 rfl (by simp [Try.ntmps56]) (by kernel_rfl) fun F w0 I0 => ?_
  have hcs : ((l.map cGI).flatten ++ rest).length = c * 2 := by rw [List.length_append, cellsG_len, hr]; omega
  simp only [↓ruleA0, ↓ruleA1, ↓ruleA2, ruleB0, ruleB1, ruleB2, ruleB3, ruleL, ↓retK, ncall, Todo_eq, packV, eqTB, litB, litV, fitL, fit, veqL, veq, sbin, sun, nilB, cellsV, oneB, okC, vals, fillV, partsE, Int.reduceLE, Int.reduceLT, Int.reduceToNat, Nat.reduceAdd, Nat.reduceEqDiff, Nat.reduceLT, Nat.reduceLeDiff, Nat.reduceMul, Nat.reduceSub, reduceCtorEq, tbAGl1, Try.results56]
  refine fun bf hf => ?_; replace hf := newb hf; try simp only [Nb] at hf
  simp only [↓ruleA0, ↓ruleA1, ↓ruleA2, ruleB0, ruleB1, ruleB2, ruleB3, ruleL, ↓retK, ncall, Todo_eq, packV, eqTB, litB, litV, fitL, fit, veqL, veq, sbin, sun, nilB, cellsV, oneB, okC, vals, fillV, partsE, Int.reduceLE, Int.reduceLT, Int.reduceToNat, Nat.reduceAdd, Nat.reduceEqDiff, Nat.reduceLT, Nat.reduceLeDiff, Nat.reduceMul, Nat.reduceSub, reduceCtorEq, tbAGl1, Try.results56, hf, h3]
  refine OkF_with [_, _] [_] (List.perm_append_comm (l₁ := [_]) (l₂ := [_, _])) (place_ok l key rest ba c bi (by omega) hs h3) ?_
  rintro v bs rs ⟨rfl, rfl, i, hi, hj, rfl⟩
  by_cases hfd : l[i]?.map (·.1) = some key
  · have hil : i < l.length := by
      rcases Nat.lt_or_ge i l.length with h | h
      · exact h
      · rw [List.getElem?_eq_none h] at hfd; cases hfd
    have hkey : l[i].1 = key := by rw [List.getElem?_eq_getElem hil] at hfd; simpa using hfd
    simp only [↓ruleA0, ↓ruleA1, ↓ruleA2, ruleB0, ruleB1, ruleB2, ruleB3, ruleL, ↓retK, ncall, Todo_eq, packV, eqTB, litB, litV, fitL, fit, veqL, veq, sbin, sun, nilB, cellsV, oneB, okC, vals, fillV, partsE, Int.reduceLE, Int.reduceLT, Int.reduceToNat, Nat.reduceAdd, Nat.reduceEqDiff, Nat.reduceLT, Nat.reduceLeDiff, Nat.reduceMul, Nat.reduceSub, reduceCtorEq, tbAGl1, Try.results56, hf, h3, hfd, hil, Int.ofNat_lt]
    have hsp : l = l.take i ++ (key, l[i].2) :: l.drop (i + 1) := by
      rw [← hkey, ← List.drop_eq_getElem_cons hil, List.take_append_drop]
    have hli : (l.take i).length = i := by rw [List.length_take]; omega
    refine ⟨_, [_, _], [], Le.refl _, List.Sublist.cons_cons _ (List.Sublist.cons_cons _ (List.nil_sublist _)), List.nil_sublist _, rfl, _, List.Perm.refl _, ba, c, l.take i, l.drop (i + 1), .list (some l[i].2.1) 10 (l[i].2.2.map cDlt), rest, by rw [hli], ?_, ?_, ?_, h3, .inl ⟨l[i].2.1, l[i].2.2, rfl, hsp⟩⟩
    · have hn : (l.take i).length + 1 + (l.drop (i + 1)).length = l.length := by rw [hli, List.length_drop]; omega
      rw [hn]
      have hc : (l.map cGI).flatten ++ rest = ((l.take i).map cGI).flatten ++ vstr key :: .list (some l[i].2.1) 10 (l[i].2.2.map cDlt) :: (((l.drop (i + 1)).map cGI).flatten ++ rest) := by
        conv => lhs; rw [hsp]
        simp
      rw [hc]
    · have hn : (l.take i).length + 1 + (l.drop (i + 1)).length = l.length := by rw [hli, List.length_drop]; omega
      rw [hn]; exact hlc
    · have hn : (l.take i).length + 1 + (l.drop (i + 1)).length = l.length := by rw [hli, List.length_drop]; omega
      rw [hn]; exact hr
  · simp only [↓ruleA0, ↓ruleA1, ↓ruleA2, ruleB0, ruleB1, ruleB2, ruleB3, ruleL, ↓retK, ncall, Todo_eq, packV, eqTB, litB, litV, fitL, fit, veqL, veq, sbin, sun, nilB, cellsV, oneB, okC, vals, fillV, partsE, Int.reduceLE, Int.reduceLT, Int.reduceToNat, Nat.reduceAdd, Nat.reduceEqDiff, Nat.reduceLT, Nat.reduceLeDiff, Nat.reduceMul, Nat.reduceSub, reduceCtorEq, tbAGl1, Try.results56, hf, h3, hfd]
    refine fun y => ?_
    refine OkF_withN [_] [_, _] (List.Perm.swap _ _ _) (ins_ok _ i l.length c ba [vstr key, nilS] (some y) rfl hcs hi hlc (by omega)) ?_
    rintro v bs rs ⟨rfl, b, c', rest', hc', rfl, hrest, rfl⟩ hnd
    simp only [List.map_cons, List.map_nil, List.nodup_cons, List.mem_cons, List.not_mem_nil, or_false, not_or, List.cons_append, List.nil_append] at hnd
    have n1 : b ≠ bi := hnd.1.1
    have n2 : b ≠ bf := hnd.1.2
    have hli : (l.take i).length = i := by rw [List.length_take]; omega
    have hsz : (l.take i).length + 1 + (l.drop i).length = l.length + 1 := by rw [hli, List.length_drop]; omega
    have hi2 : (i : Int) < ((l.length + 1 : Nat) : Int) := by omega
    simp only [↓ruleA0, ↓ruleA1, ↓ruleA2, ruleB0, ruleB1, ruleB2, ruleB3, ruleL, ↓retK, ncall, Todo_eq, packV, eqTB, litB, litV, fitL, fit, veqL, veq, sbin, sun, nilB, cellsV, oneB, okC, vals, fillV, partsE, Int.reduceLE, Int.reduceLT, Int.reduceToNat, Nat.reduceAdd, Nat.reduceEqDiff, Nat.reduceLT, Nat.reduceLeDiff, Nat.reduceMul, Nat.reduceSub, reduceCtorEq, tbAGl1, Try.results56, hf, n1, n2, Ne.symm n1, Ne.symm n2, hi2]
    refine ⟨_, [_, _], [], Le.refl _, List.Sublist.cons_cons _ (List.Sublist.cons_cons _ (List.nil_sublist _)), List.nil_sublist _, rfl, _, List.Perm.swap _ _ _, b, c', l.take i, l.drop i, nilS, rest', by rw [hli], ?_, by rw [hsz]; exact hc', by rw [hsz]; exact hrest, n1, .inr ⟨rfl, (List.take_append_drop i l).symm, ?_, ?_⟩⟩
    · have hA : ((l.take i).map cGI).flatten.length = i * 2 := by rw [cellsG_len, hli]
      have hB : ((l.map cGI).flatten ++ rest).take (i * 2) = ((l.take i).map cGI).flatten := by
        conv => lhs; rw [← List.take_append_drop i l, List.map_append, List.flatten_append, List.append_assoc]
        rw [List.take_left' hA]
      have hC : (((l.map cGI).flatten ++ rest).take (l.length * 2)).drop (i * 2) = ((l.drop i).map cGI).flatten := by
        rw [List.take_left' (cellsG_len l)]
        conv => lhs; rw [← List.take_append_drop i l, List.map_append, List.flatten_append]
        rw [List.drop_left' hA]
      rw [hsz, hB, hC]
      simp
    · intro p hp
      obtain ⟨j, hjl, rfl⟩ := List.getElem_of_mem hp
      rw [hli] at hjl
      rw [List.getElem_take]
      exact (hj j (by omega)).1 hjl
    · intro p hp
      obtain ⟨j, hjl, rfl⟩ := List.getElem_of_mem hp
      rw [List.length_drop] at hjl
      rw [List.getElem_drop]
      have h1 : ¬ less l[i + j].1 key = true := fun h => by have := (hj (i + j) (by omega)).2 h; omega
      refine less_total (by simpa using h1) fun e => ?_
      rcases Nat.eq_zero_or_pos j with h0 | h0
      · subst h0
        exact hfd (by rw [List.getElem?_eq_getElem (by omega)]; simpa using e)
      · have hij : less l[i].1 l[i + j].1 = true := (List.pairwise_iff_getElem.1 hs) i (i + j) (by omega) (by omega) (by omega)
        have := (hj i (by omega)).2 (e ▸ hij)
        omega
end Go.Proofs.Ytopfanlkbepemaa

/- Arrangements: contracts, part q: the program's index of differences. -/
set_option linter.unusedSimpArgs false
set_option maxRecDepth 100000
namespace Go.Proofs.Ytopfanlkbepemaa
open Go.VL Go.Ar Go.Proofs.Ytopfanlkbepemaa
-- @call 58

structure OfI (d : List Dlt) (i : Nat) (l : List GI) : Prop where
  keys : l.map (·.1) = keysM (d.take i)
  part : ∀ p ∈ l, p.2.2 = partD (d.take i) p.1
def rowG (p : GI) : VL.Row := ⟨p.2.1, 10, 61⟩
theorem OfI.sorted {d : List Dlt} {i : Nat} {l : List GI} (h : OfI d i l) : Sorted l := by
  have := keysM_sorted (d.take i)
  rw [← h.keys] at this
  exact List.pairwise_map.1 this
theorem OfI.len {d : List Dlt} {i : Nat} {l : List GI} (h : OfI d i l) : l.length ≤ i := by
  have h1 : l.length = (keysM (d.take i)).length := by rw [← h.keys, List.length_map]
  have h2 := keysM_len (d.take i)
  rw [List.length_take] at h2
  omega
theorem OfI.nil (d : List Dlt) : OfI d 0 [] := ⟨rfl, fun p hp => by cases hp⟩
theorem OfI.dlen {d : List Dlt} {i : Nat} {l : List GI} (h : OfI d i l) {p : GI} (hp : p ∈ l) : p.2.2.length ≤ i := by
  rw [h.part p hp]
  have := partD_len (d.take i) p.1
  rw [List.length_take] at this
  omega
theorem OfI.found {d : List Dlt} {i : Nat} (hi : i < d.length) {L1 L2 : List GI} {y y' : Value} {ds : List Dlt} (h : OfI d i (L1 ++ (d[i].row.key, y, ds) :: L2)) : OfI d (i + 1) (L1 ++ (d[i].row.key, y', ds ++ [d[i]]) :: L2) := by
  have hs := h.sorted
  have hk := keysM_take d i hi
  have hin : d[i].row.key ∈ keysM (d.take i) := by rw [← h.keys]; simp
  have hsp := List.pairwise_append.1 hs
  have h1 : ∀ p ∈ L1, ¬ d[i].row.key = p.1 := fun p hp e => less_ne (hsp.2.2 p hp _ List.mem_cons_self) e.symm
  have h2 : ∀ p ∈ L2, ¬ d[i].row.key = p.1 := fun p hp e => less_ne ((List.pairwise_cons.1 hsp.2.1).1 p hp) e
  refine ⟨?_, fun p hp => ?_⟩
  · have e1 : (L1 ++ (d[i].row.key, y', ds ++ [d[i]]) :: L2).map (·.1) = (L1 ++ (d[i].row.key, y, ds) :: L2).map (·.1) := by simp
    rw [e1, h.keys, hk]
    refine ksorted_eq (keysM_sorted _) (insK_sorted (keysM_sorted _)) fun k => ?_
    rw [insK_mem]
    constructor
    · exact .inr
    · rintro (rfl | h)
      · exact hin
      · exact h
  · rw [partD_take d p.1 i hi]
    rcases List.mem_append.1 hp with hp | hp
    · rw [if_neg (h1 p hp), List.append_nil]
      exact h.part p (List.mem_append_left _ hp)
    · rcases List.mem_cons.1 hp with rfl | hp
      · rw [if_pos rfl]
        have := h.part (d[i].row.key, y, ds) (List.mem_append_right _ List.mem_cons_self)
        simp only at this ⊢
        rw [this]
      · rw [if_neg (h2 p hp), List.append_nil]
        exact h.part p (List.mem_append_right _ (List.mem_cons_of_mem _ hp))
theorem OfI.fresh {d : List Dlt} {i : Nat} (hi : i < d.length) {L1 L2 : List GI} {y' : Value} (h : OfI d i (L1 ++ L2)) (h1 : ∀ p ∈ L1, less p.1 d[i].row.key = true) (h2 : ∀ p ∈ L2, less d[i].row.key p.1 = true) : OfI d (i + 1) (L1 ++ (d[i].row.key, y', [d[i]]) :: L2) := by
  have hs := h.sorted
  have hk := keysM_take d i hi
  have hsp := List.pairwise_append.1 hs
  have hno : ¬ d[i].row.key ∈ keysM (d.take i) := by
    rw [← h.keys, List.map_append, List.mem_append, List.mem_map, List.mem_map]
    rintro (⟨p, hp, e⟩ | ⟨p, hp, e⟩)
    · exact less_ne (h1 p hp) e
    · exact less_ne (h2 p hp) e.symm
  refine ⟨?_, fun p hp => ?_⟩
  · rw [hk]
    refine ksorted_eq ?_ (insK_sorted (keysM_sorted _)) fun k => ?_
    · refine List.pairwise_map.2 (List.pairwise_append.2 ⟨hsp.1, List.pairwise_cons.2 ⟨h2, hsp.2.1⟩, fun a ha b hb => ?_⟩)
      rcases List.mem_cons.1 hb with rfl | hb
      · exact h1 a ha
      · exact hsp.2.2 a ha b hb
    · rw [insK_mem, ← h.keys]
      simp only [List.map_append, List.map_cons, List.mem_append, List.mem_cons]
      constructor
      · rintro (h | h | h)
        · exact .inr (.inl h)
        · exact .inl h
        · exact .inr (.inr h)
      · rintro (h | h | h)
        · exact .inr (.inl h)
        · exact .inl h
        · exact .inr (.inr h)
  · rw [partD_take d p.1 i hi]
    rcases List.mem_append.1 hp with hp | hp
    · rw [if_neg (fun e => less_ne (h1 p hp) e.symm), List.append_nil]
      exact h.part p (List.mem_append_left _ hp)
    · rcases List.mem_cons.1 hp with rfl | hp
      · rw [if_pos rfl]
        have : partD (d.take i) d[i].row.key = [] := List.filter_eq_nil_iff.2 fun x hx e => hno ((keysM_mem _ _).2 ⟨x, hx, of_decide_eq_true e⟩)
        rw [this]; rfl
      · rw [if_neg (less_ne (h2 p hp)), List.append_nil]
        exact h.part p (List.mem_append_right _ hp)
theorem cut3 {X Y : List V} {a D : V} {n : Nat} (h : X.length = n) : (X ++ a :: D :: Y).drop (n + 1) = D :: Y := by
  rw [← List.drop_drop, List.drop_left' h]; rfl
theorem cut4 {X Y : List V} {a D : V} {n : Nat} (h : X.length = n) : (X ++ a :: D :: Y).take (n + 1) = X ++ [a] := by
  rw [show X ++ a :: D :: Y = (X ++ [a]) ++ D :: Y by simp, List.take_left' (by simp [h])]
theorem cut5 {X Y : List V} {a D : V} {n : Nat} (h : X.length = n) : (X ++ a :: D :: Y).drop (n + 2) = Y := by
  rw [← List.drop_drop, List.drop_left' h]; rfl
theorem cellsG_mid (L1 L2 : List GI) (p : GI) (rest : List V) : ((L1 ++ p :: L2).map cGI).flatten ++ rest = (L1.map cGI).flatten ++ vstr p.1 :: .list (some p.2.1) 10 (p.2.2.map cDlt) :: ((L2.map cGI).flatten ++ rest) := by simp

set_option linter.defProp false in
def tbAGm0 := (And.intro (And.intro (And.intro (And.intro (And.intro (And.intro Ty.sz3 (And.intro Ty.by3 Ty.ag3)) (And.intro (And.intro Ty.zr3 Ty.un3) (And.intro Ty.sz4 Ty.by4))) (And.intro (And.intro (And.intro Ty.ag4 Ty.zr4) (And.intro Ty.un4 Ty.sz9)) (And.intro (And.intro Ty.by9 Ty.ag9) (And.intro Ty.zr9 Ty.un9)))) (And.intro (And.intro (And.intro Ty.sz22 (And.intro Ty.by22 Ty.ag22)) (And.intro (And.intro Ty.zr22 Ty.un22) (And.intro Ty.sz24 Ty.by24))) (And.intro (And.intro (And.intro Ty.ag24 Ty.zr24) (And.intro Ty.fl24_0 Ty.pl24_0)) (And.intro (And.intro Ty.fl24_1 Ty.pl24_1) (And.intro Ty.sz41 Ty.by41))))) (And.intro (And.intro (And.intro (And.intro Ty.ag41 (And.intro Ty.zr41 Ty.un41)) (And.intro (And.intro Ty.sz53 Ty.by53) (And.intro Ty.ag53 Ty.zr53))) (And.intro (And.intro (And.intro Ty.fl53_0 Ty.pl53_0) (And.intro Ty.fl53_1 Ty.pl53_1)) (And.intro (And.intro Ty.sz54 Ty.by54) (And.intro Ty.ag54 Ty.zr54)))) (And.intro (And.intro (And.intro Ty.un54 (And.intro Ty.sz56 Ty.by56)) (And.intro (And.intro Ty.ag56 Ty.zr56) (And.intro Ty.fl56_0 Ty.pl56_0))) (And.intro (And.intro (And.intro Ty.fl56_1 Ty.pl56_1) (And.intro Ty.fl56_2 Ty.pl56_2)) (And.intro (And.intro Ty.fl56_3 Ty.pl56_3) (And.intro Ty.fl56_4 Ty.pl56_4)))))) (And.intro (And.intro (And.intro (And.intro (And.intro Ty.fl56_5 (And.intro Ty.pl56_5 Ty.fl56_6)) (And.intro (And.intro Ty.pl56_6 Ty.sz61) (And.intro Ty.by61 Ty.ag61))) (And.intro (And.intro (And.intro Ty.zr61 Ty.fl61_0) (And.intro Ty.pl61_0 Ty.fl61_1)) (And.intro (And.intro Ty.pl61_1 Ty.fl61_2) (And.intro Ty.pl61_2 Ty.sz65)))) (And.intro (And.intro (And.intro Ty.by65 (And.intro Ty.ag65 Ty.zr65)) (And.intro (And.intro Ty.fl65_0 Ty.pl65_0) (And.intro Ty.fl65_1 Ty.pl65_1))) (And.intro (And.intro (And.intro Ty.sz68 Ty.by68) (And.intro Ty.ag68 Ty.zr68)) (And.intro (And.intro Ty.un68 Ty.sz73) (And.intro Ty.by73 Ty.ag73))))) (And.intro (And.intro (And.intro (And.intro Ty.zr73 (And.intro Ty.sz75 Ty.by75)) (And.intro (And.intro Ty.ag75 Ty.zr75) (And.intro Ty.fl75_0 Ty.pl75_0))) (And.intro (And.intro (And.intro Ty.fl75_1 Ty.pl75_1) (And.intro Ty.sz86 Ty.by86)) (And.intro (And.intro Ty.ag86 Ty.zr86) (And.intro Ty.un86 Ty.sz109)))) (And.intro (And.intro (And.intro Ty.by109 (And.intro Ty.ag109 Ty.zr109)) (And.intro (And.intro Ty.fl109_0 Ty.pl109_0) (And.intro Ty.fl109_1 Ty.pl109_1))) (And.intro (And.intro (And.intro Ty.fl109_2 Ty.pl109_2) (And.intro Ty.eq53 Ty.eq109)) (And.intro (And.intro Ty.cb36 Ty.cb53) (And.intro Ty.cb56 Ty.cb58)))))))
theorem ofP_ok (s : Int) (d : List Dlt) (hfit : fitDs d) : OkP Try.prog 35 [vint s, vDlts d] (vArr (ofM s d)) := by
  have hd := hfit.1
  unfold big at hd
  refine Ok.of_exM [(6, 4)] Ty.mixed Try.func35 rfl (by simp [Try.ntmps35]) (by kernel_rfl) fun F w0 I0 => ?_
  simp only [↓ruleA0, ↓ruleA1, ↓ruleA2, ruleB0, ruleB1, ruleB2, ruleB3, ruleL, ↓retK, ncall, Todo_eq, packV, eqTB, litB, litV, fitL, fit, veqL, veq, sbin, sun, nilB, cellsV, oneB, okC, vals, fillV, partsE, Int.reduceLE, Int.reduceLT, Int.reduceToNat, Nat.reduceAdd, Nat.reduceEqDiff, Nat.reduceLT, Nat.reduceLeDiff, Nat.reduceMul, Nat.reduceSub, reduceCtorEq, tbAGm0, Try.results35]
  refine fun b4 h4 => ?_; replace h4 := newb h4; try simp only [Nb] at h4
  simp only [↓ruleA0, ↓ruleA1, ↓ruleA2, ruleB0, ruleB1, ruleB2, ruleB3, ruleL, ↓retK, ncall, Todo_eq, packV, eqTB, litB, litV, fitL, fit, veqL, veq, sbin, sun, nilB, cellsV, oneB, okC, vals, fillV, partsE, Int.reduceLE, Int.reduceLT, Int.reduceToNat, Nat.reduceAdd, Nat.reduceEqDiff, Nat.reduceLT, Nat.reduceLeDiff, Nat.reduceMul, Nat.reduceSub, reduceCtorEq, tbAGm0, Try.results35]
  refine OkF_withN [] _ (List.Perm.refl _) groupsNil_ok ?_
  rintro v bs rs ⟨rfl, bi, rfl, rfl⟩ hnd
  simp only [List.map_cons, List.map_nil, List.nodup_cons, List.mem_cons, List.not_mem_nil, or_false, not_or, List.cons_append, List.nil_append] at hnd
  have nb4 : bi ≠ b4 := hnd.1
  simp only [↓ruleA0, ↓ruleA1, ↓ruleA2, ruleB0, ruleB1, ruleB2, ruleB3, ruleL, ↓retK, ncall, Todo_eq, packV, eqTB, litB, litV, fitL, fit, veqL, veq, sbin, sun, nilB, cellsV, oneB, okC, vals, fillV, partsE, Int.reduceLE, Int.reduceLT, Int.reduceToNat, Nat.reduceAdd, Nat.reduceEqDiff, Nat.reduceLT, Nat.reduceLeDiff, Nat.reduceMul, Nat.reduceSub, reduceCtorEq, tbAGm0, Try.results35, List.length_map, nb4, Ne.symm nb4]
  refine EX_forP Ty.mixed (by kernel_rfl) d.length (fun i S => ∃ l : List GI, OfI d i l ∧ S.rows = l.map rowG ∧ S.σ 0 = vint s ∧ S.σ 4 = ptr b4 ∧ S.σ 5 = ptr bi ∧ S.σ 13 = vDlts d ∧ S.σ 14 = vint d.length ∧ S.σ 15 = vint i ∧ ((l = [] ∧ S.boxes = [(bi, .c [nilS, keyFn]), (b4, .c [vint 0, nilS])]) ∨ ∃ (ba c : Nat) (rest : List V), l.length ≤ c ∧ rest.length = (c - l.length) * 2 ∧ ba ≠ bi ∧ ba ≠ b4 ∧ S.boxes = [(bi, .c [.lit (.slice (some ⟨ba, 0, none⟩) l.length c), keyFn]), (ba, .c ((l.map cGI).flatten ++ rest)), (b4, .c [vint 0, nilS])])) ⟨_, _, _, _, List.Sublist.refl _, List.Sublist.refl _, List.Perm.refl _, List.Perm.refl _, [], OfI.nil d, ?_⟩ (fun i S hi ⟨l, hof, gr, g0, g4, g5, g13, g14, g15, hbx⟩ => ?_) (fun S ⟨l, hof, gr, g0, g4, g5, g13, g14, g15, hbx⟩ => ?_)
  · simp only [↓ruleA0, ↓ruleA1, ↓ruleA2, ruleB0, ruleB1, ruleB2, ruleB3, ruleL, ↓retK, ncall, Todo_eq, packV, eqTB, litB, litV, fitL, fit, veqL, veq, sbin, sun, nilB, cellsV, oneB, okC, vals, fillV, partsE, Int.reduceLE, Int.reduceLT, Int.reduceToNat, Nat.reduceAdd, Nat.reduceEqDiff, Nat.reduceLT, Nat.reduceLeDiff, Nat.reduceMul, Nat.reduceSub, reduceCtorEq, tbAGm0, Try.results35]
  · have hll := hof.len
    rcases hbx with ⟨rfl, gb⟩ | ⟨ba, c, rest, hc0, hr0, q1, q2, gb⟩
    · simp only [↓ruleA0, ↓ruleA1, ↓ruleA2, ruleB0, ruleB1, ruleB2, ruleB3, ruleL, ↓retK, ncall, Todo_eq, packV, eqTB, litB, litV, fitL, fit, veqL, veq, sbin, sun, nilB, cellsV, oneB, okC, vals, fillV, partsE, Int.reduceLE, Int.reduceLT, Int.reduceToNat, Nat.reduceAdd, Nat.reduceEqDiff, Nat.reduceLT, Nat.reduceLeDiff, Nat.reduceMul, Nat.reduceSub, reduceCtorEq, tbAGm0, Try.results35, gr, gb, g0, g4, g5, g13, g14, g15, Int.ofNat_lt, hi, List.length_map, getD_map]
      refine fun b7 h7 => ?_; replace h7 := newb h7; try simp only [Nb] at h7
      simp only [↓ruleA0, ↓ruleA1, ↓ruleA2, ruleB0, ruleB1, ruleB2, ruleB3, ruleL, ↓retK, ncall, Todo_eq, packV, eqTB, litB, litV, fitL, fit, veqL, veq, sbin, sun, nilB, cellsV, oneB, okC, vals, fillV, partsE, Int.reduceLE, Int.reduceLT, Int.reduceToNat, Nat.reduceAdd, Nat.reduceEqDiff, Nat.reduceLT, Nat.reduceLeDiff, Nat.reduceMul, Nat.reduceSub, reduceCtorEq, tbAGm0, Try.results35, gr, gb, g0, g4, g5, g13, g14, g15, h7]
      refine OkF_withN [_] [_, _] (List.Perm.swap _ _ _) (atNil_ok d[i].row.key bi) ?_
      rintro v bs rs ⟨rfl, b, c, L1, L2, D, rest, rfl, rfl, hc, hr, hbbi, hcase⟩ hnd2
      simp only [List.map_cons, List.map_nil, List.nodup_cons, List.mem_cons, List.not_mem_nil, or_false, not_or, List.cons_append, List.nil_append] at hnd2
      have m1 : b ≠ bi := hbbi
      have m2 : b ≠ b7 := hnd2.2.1.1
      have m3 : b ≠ b4 := hnd2.2.1.2
      have m4 : bi ≠ b7 := hnd2.1.2.1
      have hX : ((L1.map cGI).flatten).length = L1.length * 2 := cellsG_len L1
      have e1 := fun D' => cut3 (X := (L1.map cGI).flatten) (Y := (L2.map cGI).flatten ++ rest) (a := vstr d[i].row.key) (D := D') hX
      have e2 := fun D' => cut4 (X := (L1.map cGI).flatten) (Y := (L2.map cGI).flatten ++ rest) (a := vstr d[i].row.key) (D := D') hX
      have e3 := fun D' => cut5 (X := (L1.map cGI).flatten) (Y := (L2.map cGI).flatten ++ rest) (a := vstr d[i].row.key) (D := D') hX
      rcases hcase with ⟨y, ds, rfl, hl⟩ | ⟨rfl, hl, hlo, hhi⟩
      · simp at hl
      · have hof' := fun y' => OfI.fresh (y' := y') hi (hl ▸ hof) hlo hhi
        simp only [↓ruleA0, ↓ruleA1, ↓ruleA2, ruleB0, ruleB1, ruleB2, ruleB3, ruleL, ↓retK, ncall, Todo_eq, packV, eqTB, litB, litV, fitL, fit, veqL, veq, sbin, sun, nilB, cellsV, oneB, okC, vals, fillV, partsE, Int.reduceLE, Int.reduceLT, Int.reduceToNat, Nat.reduceAdd, Nat.reduceEqDiff, Nat.reduceLT, Nat.reduceLeDiff, Nat.reduceMul, Nat.reduceSub, reduceCtorEq, tbAGm0, Try.results35, gr, gb, g0, g4, g5, g13, g14, g15, h7, m1, m2, m3, m4, Ne.symm m1, Ne.symm m2, Ne.symm m3, Ne.symm m4, e1, e2, e3]
        refine fun y1 y' => ⟨by rw [List.length_append, hX]; simp only [List.length_cons]; omega, ?_⟩
        refine ⟨[_, _, _], ⟨y', 10, 61⟩ :: (L1.map rowG ++ L2.map rowG), _, (L1 ++ (d[i].row.key, y', [d[i]]) :: L2).map rowG, List.Sublist.cons_cons _ (List.Sublist.cons_cons _ (List.Sublist.cons _ (List.Sublist.cons_cons _ (List.nil_sublist _)))), ?_, List.Perm.refl _, ?_, _, hof' y', ?_⟩
        · have hl' := congrArg (List.map rowG) hl
          rw [List.map_append] at hl'
          rw [← hl']
          exact List.Sublist.cons_cons _ (List.Sublist.cons _ (List.Sublist.refl _))
        · rw [List.map_append, List.map_cons]
          exact List.perm_middle.symm
        simp only [↓ruleA0, ↓ruleA1, ↓ruleA2, ruleB0, ruleB1, ruleB2, ruleB3, ruleL, ↓retK, ncall, Todo_eq, packV, eqTB, litB, litV, fitL, fit, veqL, veq, sbin, sun, nilB, cellsV, oneB, okC, vals, fillV, partsE, Int.reduceLE, Int.reduceLT, Int.reduceToNat, Nat.reduceAdd, Nat.reduceEqDiff, Nat.reduceLT, Nat.reduceLeDiff, Nat.reduceMul, Nat.reduceSub, reduceCtorEq, tbAGm0, Try.results35, gr, gb, g0, g4, g5, g13, g14, g15, h7, m1, m2, m3, m4, Ne.symm m1, Ne.symm m2, Ne.symm m3, Ne.symm m4, wrap_succ hi (Nat.le_trans hd (by decide))]
        have hn' : (L1 ++ (d[i].row.key, y', [d[i]]) :: L2).length = L1.length + 1 + L2.length := by simp only [List.length_append, List.length_cons]; omega
        refine .inr ⟨b, c, rest, by rw [hn']; exact hc, by rw [hn']; exact hr, m1, m3, ?_⟩
        rw [hn', cellsG_mid]
        simp
    · simp only [↓ruleA0, ↓ruleA1, ↓ruleA2, ruleB0, ruleB1, ruleB2, ruleB3, ruleL, ↓retK, ncall, Todo_eq, packV, eqTB, litB, litV, fitL, fit, veqL, veq, sbin, sun, nilB, cellsV, oneB, okC, vals, fillV, partsE, Int.reduceLE, Int.reduceLT, Int.reduceToNat, Nat.reduceAdd, Nat.reduceEqDiff, Nat.reduceLT, Nat.reduceLeDiff, Nat.reduceMul, Nat.reduceSub, reduceCtorEq, tbAGm0, Try.results35, gr, gb, g0, g4, g5, g13, g14, g15, Int.ofNat_lt, hi, List.length_map, getD_map]
      refine fun b7 h7 => ?_; replace h7 := newb h7; try simp only [Nb] at h7
      simp only [↓ruleA0, ↓ruleA1, ↓ruleA2, ruleB0, ruleB1, ruleB2, ruleB3, ruleL, ↓retK, ncall, Todo_eq, packV, eqTB, litB, litV, fitL, fit, veqL, veq, sbin, sun, nilB, cellsV, oneB, okC, vals, fillV, partsE, Int.reduceLE, Int.reduceLT, Int.reduceToNat, Nat.reduceAdd, Nat.reduceEqDiff, Nat.reduceLT, Nat.reduceLeDiff, Nat.reduceMul, Nat.reduceSub, reduceCtorEq, tbAGm0, Try.results35, gr, gb, g0, g4, g5, g13, g14, g15, h7]
      refine OkF_withN [_, _] [_, _] ((List.perm_append_comm (l₁ := [_]) (l₂ := [_, _])).append_right [_]) (atBox_ok l d[i].row.key rest ba c bi (by unfold big; omega) hof.sorted q1 hc0 hr0) ?_
      rintro v bs rs ⟨rfl, b, c, L1, L2, D, rest, rfl, rfl, hc, hr, hbbi, hcase⟩ hnd2
      simp only [List.map_cons, List.map_nil, List.nodup_cons, List.mem_cons, List.not_mem_nil, or_false, not_or, List.cons_append, List.nil_append] at hnd2
      have m1 : b ≠ bi := hbbi
      have m2 : b ≠ b7 := hnd2.2.1.1
      have m3 : b ≠ b4 := hnd2.2.1.2
      have m4 : bi ≠ b7 := hnd2.1.2.1
      have hX : ((L1.map cGI).flatten).length = L1.length * 2 := cellsG_len L1
      have e1 := fun D' => cut3 (X := (L1.map cGI).flatten) (Y := (L2.map cGI).flatten ++ rest) (a := vstr d[i].row.key) (D := D') hX
      have e2 := fun D' => cut4 (X := (L1.map cGI).flatten) (Y := (L2.map cGI).flatten ++ rest) (a := vstr d[i].row.key) (D := D') hX
      have e3 := fun D' => cut5 (X := (L1.map cGI).flatten) (Y := (L2.map cGI).flatten ++ rest) (a := vstr d[i].row.key) (D := D') hX
      rcases hcase with ⟨y, ds, rfl, hl⟩ | ⟨rfl, hl, hlo, hhi⟩
      · have hof' := fun y' => OfI.found (y' := y') hi (hl ▸ hof)
        have hdl : ds.length ≤ i := hof.dlen (p := (d[i].row.key, y, ds)) (by rw [hl]; simp)
        rw [hl, List.map_append, List.map_cons] at gr
        simp only [↓ruleA0, ↓ruleA1, ↓ruleA2, ruleB0, ruleB1, ruleB2, ruleB3, ruleL, ↓retK, ncall, Todo_eq, packV, eqTB, litB, litV, fitL, fit, veqL, veq, sbin, sun, nilB, cellsV, oneB, okC, vals, fillV, partsE, Int.reduceLE, Int.reduceLT, Int.reduceToNat, Nat.reduceAdd, Nat.reduceEqDiff, Nat.reduceLT, Nat.reduceLeDiff, Nat.reduceMul, Nat.reduceSub, reduceCtorEq, tbAGm0, Try.results35, gr, gb, g0, g4, g5, g13, g14, g15, h7, m1, m2, m3, m4, Ne.symm m1, Ne.symm m2, Ne.symm m3, Ne.symm m4, e1, e2, e3]
        refine fun y1 => takeRF_at (l1 := ⟨y1, 10, 61⟩ :: L1.map rowG) ?_
        simp only [↓ruleA0, ↓ruleA1, ↓ruleA2, ruleB0, ruleB1, ruleB2, ruleB3, ruleL, ↓retK, ncall, Todo_eq, packV, eqTB, litB, litV, fitL, fit, veqL, veq, sbin, sun, nilB, cellsV, oneB, okC, vals, fillV, partsE, Int.reduceLE, Int.reduceLT, Int.reduceToNat, Nat.reduceAdd, Nat.reduceEqDiff, Nat.reduceLT, Nat.reduceLeDiff, Nat.reduceMul, Nat.reduceSub, reduceCtorEq, tbAGm0, Try.results35, gr, gb, g0, g4, g5, g13, g14, g15, h7, m1, m2, m3, m4, Ne.symm m1, Ne.symm m2, Ne.symm m3, Ne.symm m4, e1, e2, e3, List.length_map]
        refine ⟨by omega, fun y' => ⟨by rw [List.length_append, hX]; simp only [List.length_cons]; omega, ?_⟩⟩
        refine ⟨[_, _, _], ⟨y', 10, 61⟩ :: (L1.map rowG ++ L2.map rowG), _, (L1 ++ (d[i].row.key, y', ds ++ [d[i]]) :: L2).map rowG, List.Sublist.cons_cons _ (List.Sublist.cons_cons _ (List.Sublist.cons _ (List.Sublist.cons_cons _ (List.nil_sublist _)))), ?_, List.Perm.refl _, ?_, _, hof' y', ?_⟩
        · exact List.Sublist.cons_cons _ (List.Sublist.cons _ (List.Sublist.refl _))
        · rw [List.map_append, List.map_cons]
          exact List.perm_middle.symm
        simp only [↓ruleA0, ↓ruleA1, ↓ruleA2, ruleB0, ruleB1, ruleB2, ruleB3, ruleL, ↓retK, ncall, Todo_eq, packV, eqTB, litB, litV, fitL, fit, veqL, veq, sbin, sun, nilB, cellsV, oneB, okC, vals, fillV, partsE, Int.reduceLE, Int.reduceLT, Int.reduceToNat, Nat.reduceAdd, Nat.reduceEqDiff, Nat.reduceLT, Nat.reduceLeDiff, Nat.reduceMul, Nat.reduceSub, reduceCtorEq, tbAGm0, Try.results35, gr, gb, g0, g4, g5, g13, g14, g15, h7, m1, m2, m3, m4, Ne.symm m1, Ne.symm m2, Ne.symm m3, Ne.symm m4, wrap_succ hi (Nat.le_trans hd (by decide))]
        have hn' : (L1 ++ (d[i].row.key, y', ds ++ [d[i]]) :: L2).length = L1.length + 1 + L2.length := by simp only [List.length_append, List.length_cons]; omega
        refine .inr ⟨b, c, rest, by rw [hn']; exact hc, by rw [hn']; exact hr, m1, m3, ?_⟩
        rw [hn', cellsG_mid]
        simp
      · have hof' := fun y' => OfI.fresh (y' := y') hi (hl ▸ hof) hlo hhi
        simp only [↓ruleA0, ↓ruleA1, ↓ruleA2, ruleB0, ruleB1, ruleB2, ruleB3, ruleL, ↓retK, ncall, Todo_eq, packV, eqTB, litB, litV, fitL, fit, veqL, veq, sbin, sun, nilB, cellsV, oneB, okC, vals, fillV, partsE, Int.reduceLE, Int.reduceLT, Int.reduceToNat, Nat.reduceAdd, Nat.reduceEqDiff, Nat.reduceLT, Nat.reduceLeDiff, Nat.reduceMul, Nat.reduceSub, reduceCtorEq, tbAGm0, Try.results35, gr, gb, g0, g4, g5, g13, g14, g15, h7, m1, m2, m3, m4, Ne.symm m1, Ne.symm m2, Ne.symm m3, Ne.symm m4, e1, e2, e3]
        refine fun y1 y' => ⟨by rw [List.length_append, hX]; simp only [List.length_cons]; omega, ?_⟩
        refine ⟨[_, _, _], ⟨y', 10, 61⟩ :: (L1.map rowG ++ L2.map rowG), _, (L1 ++ (d[i].row.key, y', [d[i]]) :: L2).map rowG, List.Sublist.cons_cons _ (List.Sublist.cons_cons _ (List.Sublist.cons _ (List.Sublist.cons_cons _ (List.nil_sublist _)))), ?_, List.Perm.refl _, ?_, _, hof' y', ?_⟩
        · rw [← List.map_append, ← hl, ← gr]
          exact List.Sublist.cons_cons _ (List.Sublist.cons _ (List.Sublist.refl _))
        · rw [List.map_append, List.map_cons]
          exact List.perm_middle.symm
        simp only [↓ruleA0, ↓ruleA1, ↓ruleA2, ruleB0, ruleB1, ruleB2, ruleB3, ruleL, ↓retK, ncall, Todo_eq, packV, eqTB, litB, litV, fitL, fit, veqL, veq, sbin, sun, nilB, cellsV, oneB, okC, vals, fillV, partsE, Int.reduceLE, Int.reduceLT, Int.reduceToNat, Nat.reduceAdd, Nat.reduceEqDiff, Nat.reduceLT, Nat.reduceLeDiff, Nat.reduceMul, Nat.reduceSub, reduceCtorEq, tbAGm0, Try.results35, gr, gb, g0, g4, g5, g13, g14, g15, h7, m1, m2, m3, m4, Ne.symm m1, Ne.symm m2, Ne.symm m3, Ne.symm m4, wrap_succ hi (Nat.le_trans hd (by decide))]
        have hn' : (L1 ++ (d[i].row.key, y', [d[i]]) :: L2).length = L1.length + 1 + L2.length := by simp only [List.length_append, List.length_cons]; omega
        refine .inr ⟨b, c, rest, by rw [hn']; exact hc, by rw [hn']; exact hr, m1, m3, ?_⟩
        rw [hn', cellsG_mid]
        simp
  · have hkeys : l.map (·.1) = keysM d := by have := hof.keys; rwa [List.take_of_length_le (Nat.le_refl _)] at this
    have hll := hof.len
    rcases hbx with ⟨rfl, gb⟩ | ⟨ba, c, rest, hc0, hr0, q1, q2, gb⟩
    · have hof0 : ofM s d = ⟨s, []⟩ := by
        unfold ofM grpsM
        rw [← hkeys]; rfl
      simp only [↓ruleA0, ↓ruleA1, ↓ruleA2, ruleB0, ruleB1, ruleB2, ruleB3, ruleL, ↓retK, ncall, Todo_eq, packV, eqTB, litB, litV, fitL, fit, veqL, veq, sbin, sun, nilB, cellsV, oneB, okC, vals, fillV, partsE, Int.reduceLE, Int.reduceLT, Int.reduceToNat, Nat.reduceAdd, Nat.reduceEqDiff, Nat.reduceLT, Nat.reduceLeDiff, Nat.reduceMul, Nat.reduceSub, reduceCtorEq, tbAGm0, Try.results35, gr, gb, g0, g4, g5, g13, g14, g15, Int.ofNat_lt, Nat.lt_irrefl, List.length_map]
      refine fun b9 h9 => ?_; replace h9 := newb h9; try simp only [Nb] at h9
      simp only [↓ruleA0, ↓ruleA1, ↓ruleA2, ruleB0, ruleB1, ruleB2, ruleB3, ruleL, ↓retK, ncall, Todo_eq, packV, eqTB, litB, litV, fitL, fit, veqL, veq, sbin, sun, nilB, cellsV, oneB, okC, vals, fillV, partsE, Int.reduceLE, Int.reduceLT, Int.reduceToNat, Nat.reduceAdd, Nat.reduceEqDiff, Nat.reduceLT, Nat.reduceLeDiff, Nat.reduceMul, Nat.reduceSub, reduceCtorEq, tbAGm0, Try.results35, gr, gb, g0, g4, g5, g13, g14, g15, h9, nb4, Ne.symm nb4]
      refine EX_for Ty.mixed (by kernel_rfl) 0 (fun i S => S.boxes = [(b9, .c [vint s, nilS]), (bi, .c [nilS, keyFn]), (b4, .c [vint 0, nilS])] ∧ S.rows = [] ∧ S.σ 4 = ptr b4 ∧ S.σ 9 = ptr b9 ∧ S.σ 45 = vint 0 ∧ S.σ 46 = vint 0) ⟨0, ?_⟩ (fun i S hi _ => absurd hi (Nat.not_lt_zero _)) (fun S ⟨gb, gr, g4, g9, g45, g46⟩ => ?_)
      · simp only [↓ruleA0, ↓ruleA1, ↓ruleA2, ruleB0, ruleB1, ruleB2, ruleB3, ruleL, ↓retK, ncall, Todo_eq, packV, eqTB, litB, litV, fitL, fit, veqL, veq, sbin, sun, nilB, cellsV, oneB, okC, vals, fillV, partsE, Int.reduceLE, Int.reduceLT, Int.reduceToNat, Nat.reduceAdd, Nat.reduceEqDiff, Nat.reduceLT, Nat.reduceLeDiff, Nat.reduceMul, Nat.reduceSub, reduceCtorEq, tbAGm0, Try.results35, gr, gb, g0, g4, g5, h9, nb4, Ne.symm nb4]
        try exact ⟨trivial, trivial⟩
      · simp only [↓ruleA0, ↓ruleA1, ↓ruleA2, ruleB0, ruleB1, ruleB2, ruleB3, ruleL, ↓retK, ncall, Todo_eq, packV, eqTB, litB, litV, fitL, fit, veqL, veq, sbin, sun, nilB, cellsV, oneB, okC, vals, fillV, partsE, Int.reduceLE, Int.reduceLT, Int.reduceToNat, Nat.reduceAdd, Nat.reduceEqDiff, Nat.reduceLT, Nat.reduceLeDiff, Nat.reduceMul, Nat.reduceSub, reduceCtorEq, tbAGm0, Try.results35, gb, gr, g4, g9, g45, g46, h9, Int.lt_irrefl, nb4, Ne.symm nb4]
        rw [hof0]
        exact ret_le (Le.arr0 _)
    · simp only [↓ruleA0, ↓ruleA1, ↓ruleA2, ruleB0, ruleB1, ruleB2, ruleB3, ruleL, ↓retK, ncall, Todo_eq, packV, eqTB, litB, litV, fitL, fit, veqL, veq, sbin, sun, nilB, cellsV, oneB, okC, vals, fillV, partsE, Int.reduceLE, Int.reduceLT, Int.reduceToNat, Nat.reduceAdd, Nat.reduceEqDiff, Nat.reduceLT, Nat.reduceLeDiff, Nat.reduceMul, Nat.reduceSub, reduceCtorEq, tbAGm0, Try.results35, gr, gb, g0, g4, g5, g13, g14, g15, Int.ofNat_lt, Nat.lt_irrefl, List.length_map]
      refine fun b9 h9 => ?_; replace h9 := newb h9; try simp only [Nb] at h9
      simp only [↓ruleA0, ↓ruleA1, ↓ruleA2, ruleB0, ruleB1, ruleB2, ruleB3, ruleL, ↓retK, ncall, Todo_eq, packV, eqTB, litB, litV, fitL, fit, veqL, veq, sbin, sun, nilB, cellsV, oneB, okC, vals, fillV, partsE, Int.reduceLE, Int.reduceLT, Int.reduceToNat, Nat.reduceAdd, Nat.reduceEqDiff, Nat.reduceLT, Nat.reduceLeDiff, Nat.reduceMul, Nat.reduceSub, reduceCtorEq, tbAGm0, Try.results35, gr, gb, g0, g4, g5, g13, g14, g15, h9, nb4, Ne.symm nb4, q1, q2, Ne.symm q1, Ne.symm q2]
      refine EX_nilB (cs' := [vint s, .list (some nilv) 2 []]) (k := 2) (e := 65) [] [_, _, _] (by simp only [↓ruleA0, ↓ruleA1, ↓ruleA2, ruleB0, ruleB1, ruleB2, ruleB3, ruleL, ↓retK, ncall, Todo_eq, packV, eqTB, litB, litV, fitL, fit, veqL, veq, sbin, sun, nilB, cellsV, oneB, okC, vals, fillV, partsE, Int.reduceLE, Int.reduceLT, Int.reduceToNat, Nat.reduceAdd, Nat.reduceEqDiff, Nat.reduceLT, Nat.reduceLeDiff, Nat.reduceMul, Nat.reduceSub, reduceCtorEq, tbAGm0, Try.results35, gr, gb, g0, g4, g5, h9, nb4, Ne.symm nb4, q1, q2, Ne.symm q1, Ne.symm q2]; try rfl) (.cons (Le.refl _) (.cons (Le.nilOwn 2) .nil)) (by decide) ?_
      refine EX_forS Ty.mixed (by kernel_rfl) l.length (fun j S => ∃ y9, S.boxes = [(b9, .c [vint s, .list (some y9) 2 ((grpsK d ((l.map (·.1)).take j)).map cGrp)]), (bi, .c [.lit (.slice (some ⟨ba, 0, none⟩) l.length c), keyFn]), (ba, .c ((l.map cGI).flatten ++ rest)), (b4, .c [vint 0, nilS])] ∧ S.rows = [⟨y9, 2, 65⟩] ∧ S.σ 4 = ptr b4 ∧ S.σ 9 = ptr b9 ∧ S.σ 44 = .lit (.slice (some ⟨ba, 0, none⟩) l.length c) ∧ S.σ 45 = vint l.length ∧ S.σ 46 = vint j) ⟨_, [_], List.Sublist.refl _, List.Sublist.cons_cons _ (List.nil_sublist _), nilv, ?_⟩ (fun j S hj ⟨y9, gb, gr, g4, g9, g44, g45, g46⟩ => ?_) (fun S ⟨y9, gb, gr, g4, g9, g44, g45, g46⟩ => ?_)
      · simp only [↓ruleA0, ↓ruleA1, ↓ruleA2, ruleB0, ruleB1, ruleB2, ruleB3, ruleL, ↓retK, ncall, Todo_eq, packV, eqTB, litB, litV, fitL, fit, veqL, veq, sbin, sun, nilB, cellsV, oneB, okC, vals, fillV, partsE, Int.reduceLE, Int.reduceLT, Int.reduceToNat, Nat.reduceAdd, Nat.reduceEqDiff, Nat.reduceLT, Nat.reduceLeDiff, Nat.reduceMul, Nat.reduceSub, reduceCtorEq, tbAGm0, Try.results35, gr, gb, g0, g4, g5, h9, nb4, Ne.symm nb4, q1, q2, Ne.symm q1, Ne.symm q2]
        try simp [grpsK]
      · have hjK : j < (l.map (·.1)).length := by rw [List.length_map]; exact hj
        have htk := grpsK_take d (l.map (·.1)) j hjK
        have hlen := grpsK_len d (l.map (·.1)) j
        rw [List.getElem_map] at htk
        have hpart : l[j].2.2 = partD d l[j].1 := by have := hof.part l[j] (List.getElem_mem hj); rwa [List.take_of_length_le (Nat.le_refl _)] at this
        have hpfit : fitDs l[j].2.2 := hpart ▸ hfit.part _
        simp only [↓ruleA0, ↓ruleA1, ↓ruleA2, ruleB0, ruleB1, ruleB2, ruleB3, ruleL, ↓retK, ncall, Todo_eq, packV, eqTB, litB, litV, fitL, fit, veqL, veq, sbin, sun, nilB, cellsV, oneB, okC, vals, fillV, partsE, Int.reduceLE, Int.reduceLT, Int.reduceToNat, Nat.reduceAdd, Nat.reduceEqDiff, Nat.reduceLT, Nat.reduceLeDiff, Nat.reduceMul, Nat.reduceSub, reduceCtorEq, tbAGm0, Try.results35, gb, gr, g4, g9, g44, g45, g46, h9, nb4, Ne.symm nb4, q1, q2, Ne.symm q1, Ne.symm q2, Int.ofNat_lt, hj]
        have hdl : 2 ≤ (((l.map cGI).flatten ++ rest).drop (j * 2)).length := by rw [List.length_drop, List.length_append, cellsG_len]; omega
        have hdl' : l.length ≤ d.length := hll
        refine ⟨hdl, ?_⟩
        rw [cellG_at l rest j hj]
        refine fun b11 h11 => ?_; replace h11 := newb h11; try simp only [Nb] at h11
        simp only [↓ruleA0, ↓ruleA1, ↓ruleA2, ruleB0, ruleB1, ruleB2, ruleB3, ruleL, ↓retK, ncall, Todo_eq, packV, eqTB, litB, litV, fitL, fit, veqL, veq, sbin, sun, nilB, cellsV, oneB, okC, vals, fillV, partsE, Int.reduceLE, Int.reduceLT, Int.reduceToNat, Nat.reduceAdd, Nat.reduceEqDiff, Nat.reduceLT, Nat.reduceLeDiff, Nat.reduceMul, Nat.reduceSub, reduceCtorEq, tbAGm0, Try.results35, gb, gr, g4, g9, g44, g45, g46, h9, h11, nb4, Ne.symm nb4, q1, q2, Ne.symm q1, Ne.symm q2]
        refine OkF_le (.cons (Le.list _ _ _) .nil) _ (cons_ok l[j].2.2 hpfit) ?_
        have hgo : grpOf d l[j].1 = ⟨l[j].1, consM l[j].2.2⟩ := by rw [hpart]; rfl
        rw [hgo] at htk
        by_cases hx : full ⟨l[j].1, consM l[j].2.2⟩ = true
        · have hx' : (0 : Int) < ((consM l[j].2.2).length : Int) := by
            have h0 : 0 < (consM l[j].2.2).length := of_decide_eq_true hx
            omega
          simp only [↓ruleA0, ↓ruleA1, ↓ruleA2, ruleB0, ruleB1, ruleB2, ruleB3, ruleL, ↓retK, ncall, Todo_eq, packV, eqTB, litB, litV, fitL, fit, veqL, veq, sbin, sun, nilB, cellsV, oneB, okC, vals, fillV, partsE, Int.reduceLE, Int.reduceLT, Int.reduceToNat, Nat.reduceAdd, Nat.reduceEqDiff, Nat.reduceLT, Nat.reduceLeDiff, Nat.reduceMul, Nat.reduceSub, reduceCtorEq, tbAGm0, Try.results35, gb, gr, g4, g9, g44, g45, g46, h9, h11, nb4, Ne.symm nb4, q1, q2, Ne.symm q1, Ne.symm q2, hx', List.length_map]
          refine fun y10 => takeRF_2 ?_
          simp only [↓ruleA0, ↓ruleA1, ↓ruleA2, ruleB0, ruleB1, ruleB2, ruleB3, ruleL, ↓retK, ncall, Todo_eq, packV, eqTB, litB, litV, fitL, fit, veqL, veq, sbin, sun, nilB, cellsV, oneB, okC, vals, fillV, partsE, Int.reduceLE, Int.reduceLT, Int.reduceToNat, Nat.reduceAdd, Nat.reduceEqDiff, Nat.reduceLT, Nat.reduceLeDiff, Nat.reduceMul, Nat.reduceSub, reduceCtorEq, tbAGm0, Try.results35, gb, gr, g4, g9, g44, g45, g46, h9, h11, nb4, Ne.symm nb4, q1, q2, Ne.symm q1, Ne.symm q2, wrap_succ hj (Nat.le_trans hdl' (Nat.le_trans hd (by decide))), List.length_map]
          refine ⟨(by first | omega | (simp; omega)), fun y12 => ⟨[_, _, _, _], [_], List.Sublist.cons _ (List.Sublist.refl _), List.Sublist.cons_cons _ (List.nil_sublist _), y12, ?_⟩⟩
          simp only [↓ruleA0, ↓ruleA1, ↓ruleA2, ruleB0, ruleB1, ruleB2, ruleB3, ruleL, ↓retK, ncall, Todo_eq, packV, eqTB, litB, litV, fitL, fit, veqL, veq, sbin, sun, nilB, cellsV, oneB, okC, vals, fillV, partsE, Int.reduceLE, Int.reduceLT, Int.reduceToNat, Nat.reduceAdd, Nat.reduceEqDiff, Nat.reduceLT, Nat.reduceLeDiff, Nat.reduceMul, Nat.reduceSub, reduceCtorEq, tbAGm0, Try.results35, gb, gr, g4, g9, g44, g45, g46, h9, h11, nb4, Ne.symm nb4, q1, q2, Ne.symm q1, Ne.symm q2, wrap_succ hj (Nat.le_trans hdl' (Nat.le_trans hd (by decide))), List.length_map]
          rw [htk, if_pos hx, List.map_append]
          rfl
        · have hx' : ¬ (0 : Int) < ((consM l[j].2.2).length : Int) := by
            have h0 : ¬ 0 < (consM l[j].2.2).length := fun h => hx (decide_eq_true h)
            omega
          simp only [↓ruleA0, ↓ruleA1, ↓ruleA2, ruleB0, ruleB1, ruleB2, ruleB3, ruleL, ↓retK, ncall, Todo_eq, packV, eqTB, litB, litV, fitL, fit, veqL, veq, sbin, sun, nilB, cellsV, oneB, okC, vals, fillV, partsE, Int.reduceLE, Int.reduceLT, Int.reduceToNat, Nat.reduceAdd, Nat.reduceEqDiff, Nat.reduceLT, Nat.reduceLeDiff, Nat.reduceMul, Nat.reduceSub, reduceCtorEq, tbAGm0, Try.results35, gb, gr, g4, g9, g44, g45, g46, h9, h11, nb4, Ne.symm nb4, q1, q2, Ne.symm q1, Ne.symm q2, hx', wrap_succ hj (Nat.le_trans hdl' (Nat.le_trans hd (by decide))), List.length_map]
          refine ⟨[_, _, _, _], _, List.Sublist.cons _ (List.Sublist.refl _), List.Sublist.refl _, y9, ?_⟩
          simp only [↓ruleA0, ↓ruleA1, ↓ruleA2, ruleB0, ruleB1, ruleB2, ruleB3, ruleL, ↓retK, ncall, Todo_eq, packV, eqTB, litB, litV, fitL, fit, veqL, veq, sbin, sun, nilB, cellsV, oneB, okC, vals, fillV, partsE, Int.reduceLE, Int.reduceLT, Int.reduceToNat, Nat.reduceAdd, Nat.reduceEqDiff, Nat.reduceLT, Nat.reduceLeDiff, Nat.reduceMul, Nat.reduceSub, reduceCtorEq, tbAGm0, Try.results35, gb, gr, g4, g9, g44, g45, g46, h9, h11, nb4, Ne.symm nb4, q1, q2, Ne.symm q1, Ne.symm q2, wrap_succ hj (Nat.le_trans hdl' (Nat.le_trans hd (by decide))), List.length_map]
          rw [htk, if_neg hx, List.append_nil]
      · simp only [↓ruleA0, ↓ruleA1, ↓ruleA2, ruleB0, ruleB1, ruleB2, ruleB3, ruleL, ↓retK, ncall, Todo_eq, packV, eqTB, litB, litV, fitL, fit, veqL, veq, sbin, sun, nilB, cellsV, oneB, okC, vals, fillV, partsE, Int.reduceLE, Int.reduceLT, Int.reduceToNat, Nat.reduceAdd, Nat.reduceEqDiff, Nat.reduceLT, Nat.reduceLeDiff, Nat.reduceMul, Nat.reduceSub, reduceCtorEq, tbAGm0, Try.results35, gb, gr, g4, g9, g44, g45, g46, h9, nb4, Ne.symm nb4, q1, q2, Ne.symm q1, Ne.symm q2, Int.ofNat_lt, Nat.lt_irrefl]
        rw [List.take_of_length_le (by rw [List.length_map]; exact Nat.le_refl _), hkeys]
        exact ret_le (Le.arr _ _ _)
end Go.Proofs.Ytopfanlkbepemaa

/- Arrangements: contracts of the program: Purge, Insert, Advance. -/
set_option linter.unusedSimpArgs false
set_option maxRecDepth 100000
namespace Go.Proofs.Ytopfanlkbepemaa
open Go.VL Go.Ar Go.Proofs.Ytopfanlkbepemaa

set_option linter.defProp false in
def tbAIc0 := (And.intro (And.intro (And.intro (And.intro (And.intro (And.intro Ty.sz3 (And.intro Ty.by3 Ty.ag3)) (And.intro Ty.zr3 (And.intro Ty.un3 Ty.sz9))) (And.intro (And.intro Ty.by9 (And.intro Ty.ag9 Ty.zr9)) (And.intro Ty.un9 (And.intro Ty.sz22 Ty.by22)))) (And.intro (And.intro (And.intro Ty.ag22 (And.intro Ty.zr22 Ty.un22)) (And.intro Ty.sz24 (And.intro Ty.by24 Ty.ag24))) (And.intro (And.intro Ty.zr24 (And.intro Ty.fl24_0 Ty.pl24_0)) (And.intro Ty.fl24_1 (And.intro Ty.pl24_1 Ty.sz41))))) (And.intro (And.intro (And.intro (And.intro Ty.by41 (And.intro Ty.ag41 Ty.zr41)) (And.intro Ty.un41 (And.intro Ty.sz47 Ty.by47))) (And.intro (And.intro Ty.ag47 (And.intro Ty.zr47 Ty.un47)) (And.intro Ty.sz53 (And.intro Ty.by53 Ty.ag53)))) (And.intro (And.intro (And.intro Ty.zr53 (And.intro Ty.fl53_0 Ty.pl53_0)) (And.intro Ty.fl53_1 (And.intro Ty.pl53_1 Ty.sz54))) (And.intro (And.intro Ty.by54 (And.intro Ty.ag54 Ty.zr54)) (And.intro Ty.un54 (And.intro Ty.sz56 Ty.by56)))))) (And.intro (And.intro (And.intro (And.intro (And.intro Ty.ag56 (And.intro Ty.zr56 Ty.fl56_0)) (And.intro Ty.pl56_0 (And.intro Ty.fl56_1 Ty.pl56_1))) (And.intro (And.intro Ty.fl56_2 (And.intro Ty.pl56_2 Ty.fl56_3)) (And.intro Ty.pl56_3 (And.intro Ty.fl56_4 Ty.pl56_4)))) (And.intro (And.intro (And.intro Ty.fl56_5 (And.intro Ty.pl56_5 Ty.fl56_6)) (And.intro Ty.pl56_6 (And.intro Ty.sz61 Ty.by61))) (And.intro (And.intro Ty.ag61 (And.intro Ty.zr61 Ty.fl61_0)) (And.intro Ty.pl61_0 (And.intro Ty.fl61_1 Ty.pl61_1))))) (And.intro (And.intro (And.intro (And.intro Ty.fl61_2 (And.intro Ty.pl61_2 Ty.sz65)) (And.intro Ty.by65 (And.intro Ty.ag65 Ty.zr65))) (And.intro (And.intro Ty.fl65_0 (And.intro Ty.pl65_0 Ty.fl65_1)) (And.intro Ty.pl65_1 (And.intro Ty.sz109 Ty.by109)))) (And.intro (And.intro (And.intro Ty.ag109 (And.intro Ty.zr109 Ty.fl109_0)) (And.intro Ty.pl109_0 (And.intro Ty.fl109_1 Ty.pl109_1))) (And.intro (And.intro Ty.fl109_2 (And.intro Ty.pl109_2 Ty.eq53)) (And.intro (And.intro Ty.eq109 Ty.cb34) (And.intro Ty.cb35 Ty.cb45)))))))
theorem purgeP_ok (a : Arr) (ids : List FID) (ha : fitA a) (hids : ids.length ≤ 9223372036854775807) : OkP Try.prog 22 [vArr a, vFIDs ids] (vArr (purA a ids)) := by
  refine Ok.of_ex Ty.mixed Try.func22 rfl (by simp [Try.ntmps22]) (by kernel_rfl) fun F w0 I0 => ?_
  simp only [↓ruleA0, ↓ruleA1, ↓ruleA2, ruleB0, ruleB1, ruleB2, ruleB3, ruleL, ↓retK, ncall, Todo_eq, packV, eqTB, litB, litV, fitL, fit, veqL, veq, sbin, sun, nilB, cellsV, oneB, okC, vals, fillV, partsE, Int.reduceLE, Int.reduceLT, Int.reduceToNat, Nat.reduceAdd, Nat.reduceEqDiff, Nat.reduceLT, Nat.reduceLeDiff, Nat.reduceMul, Nat.reduceSub, reduceCtorEq, tbAIc0, Try.results22]
  refine fun b2 h2 => ?_; replace h2 := newb h2; try simp only [Nb] at h2
  simp only [↓ruleA0, ↓ruleA1, ↓ruleA2, ruleB0, ruleB1, ruleB2, ruleB3, ruleL, ↓retK, ncall, Todo_eq, packV, eqTB, litB, litV, fitL, fit, veqL, veq, sbin, sun, nilB, cellsV, oneB, okC, vals, fillV, partsE, Int.reduceLE, Int.reduceLT, Int.reduceToNat, Nat.reduceAdd, Nat.reduceEqDiff, Nat.reduceLT, Nat.reduceLeDiff, Nat.reduceMul, Nat.reduceSub, reduceCtorEq, tbAIc0, Try.results22]
  refine fun b4 h4 => ?_; replace h4 := newb h4; try simp only [Nb] at h4
  simp only [↓ruleA0, ↓ruleA1, ↓ruleA2, ruleB0, ruleB1, ruleB2, ruleB3, ruleL, ↓retK, ncall, Todo_eq, packV, eqTB, litB, litV, fitL, fit, veqL, veq, sbin, sun, nilB, cellsV, oneB, okC, vals, fillV, partsE, Int.reduceLE, Int.reduceLT, Int.reduceToNat, Nat.reduceAdd, Nat.reduceEqDiff, Nat.reduceLT, Nat.reduceLeDiff, Nat.reduceMul, Nat.reduceSub, reduceCtorEq, tbAIc0, Try.results22, h2, h4]
  refine CallV_of _ (OkRow.list (every_row a ha.1 ha.2.1)).v ?_
  simp only [↓ruleA0, ↓ruleA1, ↓ruleA2, ruleB0, ruleB1, ruleB2, ruleB3, ruleL, ↓retK, ncall, Todo_eq, packV, eqTB, litB, litV, fitL, fit, veqL, veq, sbin, sun, nilB, cellsV, oneB, okC, vals, fillV, partsE, Int.reduceLE, Int.reduceLT, Int.reduceToNat, Nat.reduceAdd, Nat.reduceEqDiff, Nat.reduceLT, Nat.reduceLeDiff, Nat.reduceMul, Nat.reduceSub, reduceCtorEq, tbAIc0, Try.results22, h2, h4]
  refine CallV_of _ (purge_ok (allD a.groups) ids ha.2.1 hids).v ?_
  simp only [↓ruleA0, ↓ruleA1, ↓ruleA2, ruleB0, ruleB1, ruleB2, ruleB3, ruleL, ↓retK, ncall, Todo_eq, packV, eqTB, litB, litV, fitL, fit, veqL, veq, sbin, sun, nilB, cellsV, oneB, okC, vals, fillV, partsE, Int.reduceLE, Int.reduceLT, Int.reduceToNat, Nat.reduceAdd, Nat.reduceEqDiff, Nat.reduceLT, Nat.reduceLeDiff, Nat.reduceMul, Nat.reduceSub, reduceCtorEq, tbAIc0, Try.results22, h2, h4]
  refine CallV_of _ (ofP_ok a.since (purgeM (allD a.groups) ids) (ha.2.purge ids)).v ?_
  simp only [↓ruleA0, ↓ruleA1, ↓ruleA2, ruleB0, ruleB1, ruleB2, ruleB3, ruleL, ↓retK, ncall, Todo_eq, packV, eqTB, litB, litV, fitL, fit, veqL, veq, sbin, sun, nilB, cellsV, oneB, okC, vals, fillV, partsE, Int.reduceLE, Int.reduceLT, Int.reduceToNat, Nat.reduceAdd, Nat.reduceEqDiff, Nat.reduceLT, Nat.reduceLeDiff, Nat.reduceMul, Nat.reduceSub, reduceCtorEq, tbAIc0, Try.results22, h2, h4]
  exact ret_done rfl
set_option linter.defProp false in
def tbAIc1 := (And.intro (And.intro (And.intro (And.intro (And.intro (And.intro Ty.sz3 (And.intro Ty.by3 Ty.ag3)) (And.intro Ty.zr3 (And.intro Ty.un3 Ty.sz4))) (And.intro (And.intro Ty.by4 (And.intro Ty.ag4 Ty.zr4)) (And.intro (And.intro Ty.un4 Ty.sz9) (And.intro Ty.by9 Ty.ag9)))) (And.intro (And.intro (And.intro Ty.zr9 (And.intro Ty.un9 Ty.sz22)) (And.intro Ty.by22 (And.intro Ty.ag22 Ty.zr22))) (And.intro (And.intro Ty.un22 (And.intro Ty.sz24 Ty.by24)) (And.intro (And.intro Ty.ag24 Ty.zr24) (And.intro Ty.fl24_0 Ty.pl24_0))))) (And.intro (And.intro (And.intro (And.intro Ty.fl24_1 (And.intro Ty.pl24_1 Ty.sz29)) (And.intro Ty.by29 (And.intro Ty.ag29 Ty.zr29))) (And.intro (And.intro Ty.un29 (And.intro Ty.sz41 Ty.by41)) (And.intro (And.intro Ty.ag41 Ty.zr41) (And.intro Ty.un41 Ty.sz53)))) (And.intro (And.intro (And.intro Ty.by53 (And.intro Ty.ag53 Ty.zr53)) (And.intro (And.intro Ty.fl53_0 Ty.pl53_0) (And.intro Ty.fl53_1 Ty.pl53_1))) (And.intro (And.intro Ty.sz54 (And.intro Ty.by54 Ty.ag54)) (And.intro (And.intro Ty.zr54 Ty.un54) (And.intro Ty.sz56 Ty.by56)))))) (And.intro (And.intro (And.intro (And.intro (And.intro Ty.ag56 (And.intro Ty.zr56 Ty.fl56_0)) (And.intro Ty.pl56_0 (And.intro Ty.fl56_1 Ty.pl56_1))) (And.intro (And.intro Ty.fl56_2 (And.intro Ty.pl56_2 Ty.fl56_3)) (And.intro (And.intro Ty.pl56_3 Ty.fl56_4) (And.intro Ty.pl56_4 Ty.fl56_5)))) (And.intro (And.intro (And.intro Ty.pl56_5 (And.intro Ty.fl56_6 Ty.pl56_6)) (And.intro (And.intro Ty.sz61 Ty.by61) (And.intro Ty.ag61 Ty.zr61))) (And.intro (And.intro Ty.fl61_0 (And.intro Ty.pl61_0 Ty.fl61_1)) (And.intro (And.intro Ty.pl61_1 Ty.fl61_2) (And.intro Ty.pl61_2 Ty.sz65))))) (And.intro (And.intro (And.intro (And.intro Ty.by65 (And.intro Ty.ag65 Ty.zr65)) (And.intro Ty.fl65_0 (And.intro Ty.pl65_0 Ty.fl65_1))) (And.intro (And.intro Ty.pl65_1 (And.intro Ty.sz78 Ty.by78)) (And.intro (And.intro Ty.ag78 Ty.zr78) (And.intro Ty.sz109 Ty.by109)))) (And.intro (And.intro (And.intro Ty.ag109 (And.intro Ty.zr109 Ty.fl109_0)) (And.intro (And.intro Ty.pl109_0 Ty.fl109_1) (And.intro Ty.pl109_1 Ty.fl109_2))) (And.intro (And.intro Ty.pl109_2 (And.intro Ty.eq53 Ty.eq109)) (And.intro (And.intro Ty.cb34 Ty.cb35) (And.intro Ty.cb40 Ty.cb41)))))))
theorem insP_ok (a : Arr) (d : List Dlt) (ha : fitA a) (hd : fitDs (allD a.groups ++ d)) : OkP Try.prog 17 [vArr a, vDlts d] (vRes (insA a d)) := by
  have hdl : d.length ≤ 4194304 := by have := hd.1; unfold big at this; rw [List.length_append] at this; omega
  have hda : (allD a.groups).length ≤ 4194304 := ha.2.1
  have hdt : (allD a.groups).length + d.length ≤ 4194304 := by have := hd.1; unfold big at this; rw [List.length_append] at this; omega
  refine Ok.of_exM [(3, 2)] Ty.mixed Try.func17 rfl (by simp [Try.ntmps17]) (by kernel_rfl) fun F w0 I0 => ?_
  simp only [↓ruleA0, ↓ruleA1, ↓ruleA2, ruleB0, ruleB1, ruleB2, ruleB3, ruleL, ↓retK, ncall, Todo_eq, packV, eqTB, litB, litV, fitL, fit, veqL, veq, sbin, sun, nilB, cellsV, oneB, okC, vals, fillV, partsE, Int.reduceLE, Int.reduceLT, Int.reduceToNat, Nat.reduceAdd, Nat.reduceEqDiff, Nat.reduceLT, Nat.reduceLeDiff, Nat.reduceMul, Nat.reduceSub, reduceCtorEq, tbAIc1, Try.results17]
  refine fun b2 h2 => ?_; replace h2 := newb h2; try simp only [Nb] at h2
  simp only [↓ruleA0, ↓ruleA1, ↓ruleA2, ruleB0, ruleB1, ruleB2, ruleB3, ruleL, ↓retK, ncall, Todo_eq, packV, eqTB, litB, litV, fitL, fit, veqL, veq, sbin, sun, nilB, cellsV, oneB, okC, vals, fillV, partsE, Int.reduceLE, Int.reduceLT, Int.reduceToNat, Nat.reduceAdd, Nat.reduceEqDiff, Nat.reduceLT, Nat.reduceLeDiff, Nat.reduceMul, Nat.reduceSub, reduceCtorEq, tbAIc1, Try.results17]
  refine fun b4 h4 => ?_; replace h4 := newb h4; try simp only [Nb] at h4
  simp only [↓ruleA0, ↓ruleA1, ↓ruleA2, ruleB0, ruleB1, ruleB2, ruleB3, ruleL, ↓retK, ncall, Todo_eq, packV, eqTB, litB, litV, fitL, fit, veqL, veq, sbin, sun, nilB, cellsV, oneB, okC, vals, fillV, partsE, Int.reduceLE, Int.reduceLT, Int.reduceToNat, Nat.reduceAdd, Nat.reduceEqDiff, Nat.reduceLT, Nat.reduceLeDiff, Nat.reduceMul, Nat.reduceSub, reduceCtorEq, tbAIc1, Try.results17, h2, h4]
  refine OkF_with [_] [_] (List.Perm.swap _ _ _) (containsF_ok d a b2 (Nat.le_trans hdl (by decide))) ?_
  rintro v bs rs ⟨rfl, rfl, rfl⟩
  by_cases hlt : lateB a d = true
  · have hlt' : (d.any fun x => decide (x.tick < a.since)) = true := hlt
    simp only [↓ruleA0, ↓ruleA1, ↓ruleA2, ruleB0, ruleB1, ruleB2, ruleB3, ruleL, ↓retK, ncall, Todo_eq, packV, eqTB, litB, litV, fitL, fit, veqL, veq, sbin, sun, nilB, cellsV, oneB, okC, vals, fillV, partsE, Int.reduceLE, Int.reduceLT, Int.reduceToNat, Nat.reduceAdd, Nat.reduceEqDiff, Nat.reduceLT, Nat.reduceLeDiff, Nat.reduceMul, Nat.reduceSub, reduceCtorEq, tbAIc1, Try.results17, h2, h4, hlt']
    refine ret_le ?_
    unfold insA
    rw [if_pos hlt]
    exact Le.two (Le.arr0 _) (Le.refl _)
  · have hlt' : (d.any fun x => decide (x.tick < a.since)) = false := by simpa [lateB] using hlt
    simp only [↓ruleA0, ↓ruleA1, ↓ruleA2, ruleB0, ruleB1, ruleB2, ruleB3, ruleL, ↓retK, ncall, Todo_eq, packV, eqTB, litB, litV, fitL, fit, veqL, veq, sbin, sun, nilB, cellsV, oneB, okC, vals, fillV, partsE, Int.reduceLE, Int.reduceLT, Int.reduceToNat, Nat.reduceAdd, Nat.reduceEqDiff, Nat.reduceLT, Nat.reduceLeDiff, Nat.reduceMul, Nat.reduceSub, reduceCtorEq, tbAIc1, Try.results17, h2, h4, hlt']
    refine OkR_row (every_row a ha.1 ha.2.1) fun y => ?_
    simp only [↓ruleA0, ↓ruleA1, ↓ruleA2, ruleB0, ruleB1, ruleB2, ruleB3, ruleL, ↓retK, ncall, Todo_eq, packV, eqTB, litB, litV, fitL, fit, veqL, veq, sbin, sun, nilB, cellsV, oneB, okC, vals, fillV, partsE, Int.reduceLE, Int.reduceLT, Int.reduceToNat, Nat.reduceAdd, Nat.reduceEqDiff, Nat.reduceLT, Nat.reduceLeDiff, Nat.reduceMul, Nat.reduceSub, reduceCtorEq, tbAIc1, Try.results17, h2, h4, List.length_map]
    refine ⟨(by first | omega | (simp; omega)), fun y2 => ?_⟩
    refine OkR_of _ (Ok.le (.cons (Le.refl _) (.cons (by rw [← List.map_append]; exact Le.list _ _ _) .nil)) (ofP_ok a.since (allD a.groups ++ d) hd)) ?_
    simp only [↓ruleA0, ↓ruleA1, ↓ruleA2, ruleB0, ruleB1, ruleB2, ruleB3, ruleL, ↓retK, ncall, Todo_eq, packV, eqTB, litB, litV, fitL, fit, veqL, veq, sbin, sun, nilB, cellsV, oneB, okC, vals, fillV, partsE, Int.reduceLE, Int.reduceLT, Int.reduceToNat, Nat.reduceAdd, Nat.reduceEqDiff, Nat.reduceLT, Nat.reduceLeDiff, Nat.reduceMul, Nat.reduceSub, reduceCtorEq, tbAIc1, Try.results17, h2, h4]
    refine ret_le ?_
    unfold insA
    rw [if_neg hlt]
    exact Le.refl _

/-! ### Advance -/
def advI (s : Int) (d : List Dlt) (i : Nat) : List Dlt := advD s (d.take i) ++ d.drop i
theorem advI_zero (s : Int) (d : List Dlt) : advI s d 0 = d := by simp [advI, advD]
theorem advI_all (s : Int) (d : List Dlt) : advI s d d.length = advD s d := by unfold advI; rw [List.take_of_length_le (Nat.le_refl _), List.drop_of_length_le (Nat.le_refl _), List.append_nil]
theorem advD_len (s : Int) (d : List Dlt) : (advD s d).length = d.length := by simp [advD]
/-- Cells around the i-th difference. -/
theorem adv_cells (s : Int) (d : List Dlt) (i : Nat) (hi : i < d.length) (rest : List V) : ∃ A B : List V, A.length = i * 10 ∧ ((advI s d i).map cDlt).flatten ++ rest = A ++ (cDlt d[i] ++ B) ∧ ((advI s d (i + 1)).map cDlt).flatten ++ rest = A ++ (cDlt { d[i] with tick := max d[i].tick s } ++ B) := by
  refine ⟨((advD s (d.take i)).map cDlt).flatten, ((d.drop (i + 1)).map cDlt).flatten ++ rest, ?_, ?_, ?_⟩
  · rw [cellsD_len, advD_len, List.length_take]; omega
  · unfold advI
    rw [List.drop_eq_getElem_cons hi]
    simp only [List.map_append, List.map_cons, List.flatten_append, List.flatten_cons, List.append_assoc]
  · unfold advI
    rw [List.take_succ_eq_append_getElem hi, adv_append]
    simp only [advD, List.map_append, List.map_cons, List.map_nil, List.flatten_append, List.flatten_cons, List.flatten_nil, List.append_assoc, List.nil_append]
theorem cut8 {A B : List V} {x : Dlt} {n : Nat} (h : A.length = n) : (A ++ vstr x.row.id.src :: vint x.row.id.seq :: vstr x.row.table :: vstr x.row.key :: vint x.row.event :: vVals x.row.fields :: vint x.row.no :: vint x.row.tick :: vint x.tick :: vint x.n :: B).drop (n + 8) = vint x.tick :: vint x.n :: B := by
  rw [← List.drop_drop, List.drop_left' h]; rfl
theorem cut8' {A B : List V} {x : Dlt} {n : Nat} (h : A.length = n) : (A ++ vstr x.row.id.src :: vint x.row.id.seq :: vstr x.row.table :: vstr x.row.key :: vint x.row.event :: vVals x.row.fields :: vint x.row.no :: vint x.row.tick :: vint x.tick :: vint x.n :: B).take (n + 8) = A ++ [vstr x.row.id.src, vint x.row.id.seq, vstr x.row.table, vstr x.row.key, vint x.row.event, vVals x.row.fields, vint x.row.no, vint x.row.tick] := by
  rw [show A ++ vstr x.row.id.src :: vint x.row.id.seq :: vstr x.row.table :: vstr x.row.key :: vint x.row.event :: vVals x.row.fields :: vint x.row.no :: vint x.row.tick :: vint x.tick :: vint x.n :: B = (A ++ [vstr x.row.id.src, vint x.row.id.seq, vstr x.row.table, vstr x.row.key, vint x.row.event, vVals x.row.fields, vint x.row.no, vint x.row.tick]) ++ (vint x.tick :: vint x.n :: B) by simp, List.take_left' (by simp [h])]
theorem cut9 {A B : List V} {x : Dlt} {n : Nat} (h : A.length = n) : (A ++ vstr x.row.id.src :: vint x.row.id.seq :: vstr x.row.table :: vstr x.row.key :: vint x.row.event :: vVals x.row.fields :: vint x.row.no :: vint x.row.tick :: vint x.tick :: vint x.n :: B).drop (n + 9) = vint x.n :: B := by
  rw [← List.drop_drop, List.drop_left' h]; rfl
set_option linter.defProp false in
def tbAIc2 := (And.intro (And.intro (And.intro (And.intro (And.intro (And.intro Ty.sz3 (And.intro Ty.by3 Ty.ag3)) (And.intro Ty.zr3 (And.intro Ty.un3 Ty.sz4))) (And.intro (And.intro Ty.by4 (And.intro Ty.ag4 Ty.zr4)) (And.intro Ty.un4 (And.intro Ty.sz9 Ty.by9)))) (And.intro (And.intro (And.intro Ty.ag9 (And.intro Ty.zr9 Ty.un9)) (And.intro Ty.sz22 (And.intro Ty.by22 Ty.ag22))) (And.intro (And.intro Ty.zr22 (And.intro Ty.un22 Ty.sz24)) (And.intro (And.intro Ty.by24 Ty.ag24) (And.intro Ty.zr24 Ty.fl24_0))))) (And.intro (And.intro (And.intro (And.intro Ty.pl24_0 (And.intro Ty.fl24_1 Ty.pl24_1)) (And.intro Ty.sz29 (And.intro Ty.by29 Ty.ag29))) (And.intro (And.intro Ty.zr29 (And.intro Ty.un29 Ty.sz41)) (And.intro Ty.by41 (And.intro Ty.ag41 Ty.zr41)))) (And.intro (And.intro (And.intro Ty.un41 (And.intro Ty.sz53 Ty.by53)) (And.intro Ty.ag53 (And.intro Ty.zr53 Ty.fl53_0))) (And.intro (And.intro Ty.pl53_0 (And.intro Ty.fl53_1 Ty.pl53_1)) (And.intro (And.intro Ty.sz54 Ty.by54) (And.intro Ty.ag54 Ty.zr54)))))) (And.intro (And.intro (And.intro (And.intro (And.intro Ty.un54 (And.intro Ty.sz56 Ty.by56)) (And.intro Ty.ag56 (And.intro Ty.zr56 Ty.fl56_0))) (And.intro (And.intro Ty.pl56_0 (And.intro Ty.fl56_1 Ty.pl56_1)) (And.intro Ty.fl56_2 (And.intro Ty.pl56_2 Ty.fl56_3)))) (And.intro (And.intro (And.intro Ty.pl56_3 (And.intro Ty.fl56_4 Ty.pl56_4)) (And.intro Ty.fl56_5 (And.intro Ty.pl56_5 Ty.fl56_6))) (And.intro (And.intro Ty.pl56_6 (And.intro Ty.sz61 Ty.by61)) (And.intro (And.intro Ty.ag61 Ty.zr61) (And.intro Ty.fl61_0 Ty.pl61_0))))) (And.intro (And.intro (And.intro (And.intro Ty.fl61_1 (And.intro Ty.pl61_1 Ty.fl61_2)) (And.intro Ty.pl61_2 (And.intro Ty.sz65 Ty.by65))) (And.intro (And.intro Ty.ag65 (And.intro Ty.zr65 Ty.fl65_0)) (And.intro (And.intro Ty.pl65_0 Ty.fl65_1) (And.intro Ty.pl65_1 Ty.sz109)))) (And.intro (And.intro (And.intro Ty.by109 (And.intro Ty.ag109 Ty.zr109)) (And.intro Ty.fl109_0 (And.intro Ty.pl109_0 Ty.fl109_1))) (And.intro (And.intro Ty.pl109_1 (And.intro Ty.fl109_2 Ty.pl109_2)) (And.intro (And.intro Ty.eq53 Ty.eq109) (And.intro Ty.cb34 Ty.cb35)))))))
theorem advP_ok (a : Arr) (s : Int) (ha : fitA a) : OkP Try.prog 12 [vArr a, vint s] (vRes (advA a s)) := by
  have hda : (allD a.groups).length ≤ 4194304 := ha.2.1
  refine Ok.of_ex Ty.mixed Try.func12 rfl (by simp [Try.ntmps12]) (by kernel_rfl) fun F w0 I0 => ?_
  simp only [↓ruleA0, ↓ruleA1, ↓ruleA2, ruleB0, ruleB1, ruleB2, ruleB3, ruleL, ↓retK, ncall, Todo_eq, packV, eqTB, litB, litV, fitL, fit, veqL, veq, sbin, sun, nilB, cellsV, oneB, okC, vals, fillV, partsE, Int.reduceLE, Int.reduceLT, Int.reduceToNat, Nat.reduceAdd, Nat.reduceEqDiff, Nat.reduceLT, Nat.reduceLeDiff, Nat.reduceMul, Nat.reduceSub, reduceCtorEq, tbAIc2, Try.results12]
  refine fun b2 h2 => ?_; replace h2 := newb h2; try simp only [Nb] at h2
  simp only [↓ruleA0, ↓ruleA1, ↓ruleA2, ruleB0, ruleB1, ruleB2, ruleB3, ruleL, ↓retK, ncall, Todo_eq, packV, eqTB, litB, litV, fitL, fit, veqL, veq, sbin, sun, nilB, cellsV, oneB, okC, vals, fillV, partsE, Int.reduceLE, Int.reduceLT, Int.reduceToNat, Nat.reduceAdd, Nat.reduceEqDiff, Nat.reduceLT, Nat.reduceLeDiff, Nat.reduceMul, Nat.reduceSub, reduceCtorEq, tbAIc2, Try.results12]
  refine fun b4 h4 => ?_; replace h4 := newb h4; try simp only [Nb] at h4
  by_cases h1 : maxT < s
  · simp only [↓ruleA0, ↓ruleA1, ↓ruleA2, ruleB0, ruleB1, ruleB2, ruleB3, ruleL, ↓retK, ncall, Todo_eq, packV, eqTB, litB, litV, fitL, fit, veqL, veq, sbin, sun, nilB, cellsV, oneB, okC, vals, fillV, partsE, Int.reduceLE, Int.reduceLT, Int.reduceToNat, Nat.reduceAdd, Nat.reduceEqDiff, Nat.reduceLT, Nat.reduceLeDiff, Nat.reduceMul, Nat.reduceSub, reduceCtorEq, tbAIc2, Try.results12, h2, h4, h1]
    refine ret_le ?_
    unfold advA
    rw [if_pos h1]
    exact Le.two (Le.arr0 _) (Le.refl _)
  · by_cases h3 : s < a.since
    · simp only [↓ruleA0, ↓ruleA1, ↓ruleA2, ruleB0, ruleB1, ruleB2, ruleB3, ruleL, ↓retK, ncall, Todo_eq, packV, eqTB, litB, litV, fitL, fit, veqL, veq, sbin, sun, nilB, cellsV, oneB, okC, vals, fillV, partsE, Int.reduceLE, Int.reduceLT, Int.reduceToNat, Nat.reduceAdd, Nat.reduceEqDiff, Nat.reduceLT, Nat.reduceLeDiff, Nat.reduceMul, Nat.reduceSub, reduceCtorEq, tbAIc2, Try.results12, h2, h4, h1, h3]
      refine ret_le ?_
      unfold advA
      rw [if_neg h1, if_pos h3]
      exact Le.two (Le.arr0 _) (Le.refl _)
    · simp only [↓ruleA0, ↓ruleA1, ↓ruleA2, ruleB0, ruleB1, ruleB2, ruleB3, ruleL, ↓retK, ncall, Todo_eq, packV, eqTB, litB, litV, fitL, fit, veqL, veq, sbin, sun, nilB, cellsV, oneB, okC, vals, fillV, partsE, Int.reduceLE, Int.reduceLT, Int.reduceToNat, Nat.reduceAdd, Nat.reduceEqDiff, Nat.reduceLT, Nat.reduceLeDiff, Nat.reduceMul, Nat.reduceSub, reduceCtorEq, tbAIc2, Try.results12, h2, h4, h1, h3]
      refine OkF_withN [] _ (List.Perm.refl _) (every_ok a ha.1 ha.2.1) ?_
      rintro v bs rs ⟨rfl, be, rfl, rfl⟩ hnd
      simp only [List.map_cons, List.map_nil, List.nodup_cons, List.mem_cons, List.not_mem_nil, or_false, not_or, List.cons_append, List.nil_append] at hnd
      have m1 : be ≠ b4 := hnd.1.1
      have m2 : be ≠ b2 := hnd.1.2
      generalize hD : allD a.groups = D at hda
      have hDf : fitDs D := hD ▸ ha.2
      simp only [↓ruleA0, ↓ruleA1, ↓ruleA2, ruleB0, ruleB1, ruleB2, ruleB3, ruleL, ↓retK, ncall, Todo_eq, packV, eqTB, litB, litV, fitL, fit, veqL, veq, sbin, sun, nilB, cellsV, oneB, okC, vals, fillV, partsE, Int.reduceLE, Int.reduceLT, Int.reduceToNat, Nat.reduceAdd, Nat.reduceEqDiff, Nat.reduceLT, Nat.reduceLeDiff, Nat.reduceMul, Nat.reduceSub, reduceCtorEq, tbAIc2, Try.results12, h2, h4, h1, h3, m1, m2, Ne.symm m1, Ne.symm m2]
      refine EX_for Ty.mixed (by kernel_rfl) D.length (fun i S => S.boxes = [(be, .c ((advI s D i).map cDlt).flatten), (b4, .c [vint 0, nilS]), (b2, .c (cArr a))] ∧ S.rows = [] ∧ S.σ 1 = vint s ∧ S.σ 4 = ptr b4 ∧ S.σ 6 = .lit (.slice (some ⟨be, 0, none⟩) D.length D.length) ∧ S.σ 19 = vint D.length ∧ S.σ 20 = vint i) ⟨0, ?_⟩ (fun i S hi ⟨gb, gr, g1, g4, g6, g19, g20⟩ => ?_) (fun S ⟨gb, gr, g1, g4, g6, g19, g20⟩ => ?_)
      · simp only [↓ruleA0, ↓ruleA1, ↓ruleA2, ruleB0, ruleB1, ruleB2, ruleB3, ruleL, ↓retK, ncall, Todo_eq, packV, eqTB, litB, litV, fitL, fit, veqL, veq, sbin, sun, nilB, cellsV, oneB, okC, vals, fillV, partsE, Int.reduceLE, Int.reduceLT, Int.reduceToNat, Nat.reduceAdd, Nat.reduceEqDiff, Nat.reduceLT, Nat.reduceLeDiff, Nat.reduceMul, Nat.reduceSub, reduceCtorEq, tbAIc2, Try.results12, h2, h4, advI_zero]
        try simp [advI_zero]
      · obtain ⟨A, B, hA, e1, e2⟩ := adv_cells s D i hi []
        rw [List.append_nil] at e1 e2
        rw [e1] at gb
        simp only [↓ruleA0, ↓ruleA1, ↓ruleA2, ruleB0, ruleB1, ruleB2, ruleB3, ruleL, ↓retK, ncall, Todo_eq, packV, eqTB, litB, litV, fitL, fit, veqL, veq, sbin, sun, nilB, cellsV, oneB, okC, vals, fillV, partsE, Int.reduceLE, Int.reduceLT, Int.reduceToNat, Nat.reduceAdd, Nat.reduceEqDiff, Nat.reduceLT, Nat.reduceLeDiff, Nat.reduceMul, Nat.reduceSub, reduceCtorEq, tbAIc2, Try.results12, gb, gr, g1, g4, g6, g19, g20, h2, h4, m1, m2, Ne.symm m1, Ne.symm m2, Int.ofNat_lt, hi, cut8 hA, cut8' hA, cut9 hA, wrap_succ hi (Nat.le_trans hda (by decide))]
        refine ⟨by rw [List.length_append, hA]; simp only [List.length_cons]; omega, 0, ?_⟩
        have hmax : (if s > D[i].tick then s else D[i].tick) = max D[i].tick s := by split <;> omega
        rw [hmax, e2]
        simp
      · rw [advI_all] at gb
        simp only [↓ruleA0, ↓ruleA1, ↓ruleA2, ruleB0, ruleB1, ruleB2, ruleB3, ruleL, ↓retK, ncall, Todo_eq, packV, eqTB, litB, litV, fitL, fit, veqL, veq, sbin, sun, nilB, cellsV, oneB, okC, vals, fillV, partsE, Int.reduceLE, Int.reduceLT, Int.reduceToNat, Nat.reduceAdd, Nat.reduceEqDiff, Nat.reduceLT, Nat.reduceLeDiff, Nat.reduceMul, Nat.reduceSub, reduceCtorEq, tbAIc2, Try.results12, gb, gr, g1, g4, g6, g19, g20, h2, h4, m1, m2, Ne.symm m1, Ne.symm m2, Int.ofNat_lt, Nat.lt_irrefl]
        refine OkF_with [_] [_, _] (List.Perm.refl _) (Ok.consume (n := D.length) (c := D.length) (k := 10) (es := (advD s D).map cDlt) ⟨?_, ?_, ?_, Nat.le_refl _⟩ (.cons (.same _) (.cons .here .nil)) (Ok.le (.cons (Le.refl _) (.cons (Le.list _ _ _) .nil)) (ofP_ok s (advD s D) (hDf.adv s)))) ?_
        · rw [List.take_of_length_le (by rw [cellsD_len, advD_len]; exact Nat.le_refl _)]
        · intro e he
          obtain ⟨x, _, rfl⟩ := List.mem_map.1 he
          rfl
        · rw [List.length_map, advD_len]
        rintro v bs rs ⟨rfl, rfl, rfl⟩
        simp only [↓ruleA0, ↓ruleA1, ↓ruleA2, ruleB0, ruleB1, ruleB2, ruleB3, ruleL, ↓retK, ncall, Todo_eq, packV, eqTB, litB, litV, fitL, fit, veqL, veq, sbin, sun, nilB, cellsV, oneB, okC, vals, fillV, partsE, Int.reduceLE, Int.reduceLT, Int.reduceToNat, Nat.reduceAdd, Nat.reduceEqDiff, Nat.reduceLT, Nat.reduceLeDiff, Nat.reduceMul, Nat.reduceSub, reduceCtorEq, tbAIc2, Try.results12, g4, h2, h4]
        refine ret_le ?_
        unfold advA
        rw [if_neg h1, if_neg h3, hD]
        exact Le.refl _
end Go.Proofs.Ytopfanlkbepemaa

/- Arrangements: contracts, the chapter's example. -/
set_option linter.unusedSimpArgs false
set_option maxRecDepth 100000
namespace Go.Proofs.Ytopfanlkbepemaa
open Go.VL Go.Ar Go.Proofs.Ytopfanlkbepemaa

def strU : Str := ⟨#[117]⟩
def strV : Str := ⟨#[118]⟩
def rowC (key : Str) (e : Int) : Rw := ⟨⟨⟨#[115]⟩, e⟩, ⟨#[116]⟩, key, e, [], e, e⟩
def dEx : List Dlt := [⟨rowC strU 5, 10, 1⟩, ⟨rowC strU 5, 20, -1⟩, ⟨rowC strV 7, 30, 1⟩]
def aEx : Arr := ofM 0 dEx
def bEx : Arr := ofM 25 (advD 25 (allD aEx.groups))
set_option linter.defProp false in
def tbAJb0 := (And.intro (And.intro (And.intro (And.intro (And.intro Ty.sz3 (And.intro Ty.by3 Ty.ag3)) (And.intro Ty.zr3 (And.intro Ty.un3 Ty.sz9))) (And.intro (And.intro Ty.by9 (And.intro Ty.ag9 Ty.zr9)) (And.intro (And.intro Ty.un9 Ty.sz53) (And.intro Ty.by53 Ty.ag53)))) (And.intro (And.intro (And.intro Ty.zr53 (And.intro Ty.fl53_0 Ty.pl53_0)) (And.intro Ty.fl53_1 (And.intro Ty.pl53_1 Ty.sz54))) (And.intro (And.intro Ty.by54 (And.intro Ty.ag54 Ty.zr54)) (And.intro (And.intro Ty.un54 Ty.sz56) (And.intro Ty.by56 Ty.ag56))))) (And.intro (And.intro (And.intro (And.intro Ty.zr56 (And.intro Ty.fl56_0 Ty.pl56_0)) (And.intro Ty.fl56_1 (And.intro Ty.pl56_1 Ty.fl56_2))) (And.intro (And.intro Ty.pl56_2 (And.intro Ty.fl56_3 Ty.pl56_3)) (And.intro (And.intro Ty.fl56_4 Ty.pl56_4) (And.intro Ty.fl56_5 Ty.pl56_5)))) (And.intro (And.intro (And.intro Ty.fl56_6 (And.intro Ty.pl56_6 Ty.sz109)) (And.intro (And.intro Ty.by109 Ty.ag109) (And.intro Ty.zr109 Ty.fl109_0))) (And.intro (And.intro Ty.pl109_0 (And.intro Ty.fl109_1 Ty.pl109_1)) (And.intro (And.intro Ty.fl109_2 Ty.pl109_2) (And.intro Ty.eq53 Ty.eq109))))))
theorem row_ok (key : Str) (e : Int) : OkP Try.prog 33 [vstr key, vint e] (.agg (cRow (rowC key e))) := by
  refine Ok.of_ex Ty.mixed Try.func33 rfl (by simp [Try.ntmps33]) (by kernel_rfl) fun F w0 I0 => ?_
  simp only [↓ruleA0, ↓ruleA1, ↓ruleA2, ruleB0, ruleB1, ruleB2, ruleB3, ruleL, ↓retK, ncall, Todo_eq, packV, eqTB, litB, litV, fitL, fit, veqL, veq, sbin, sun, nilB, cellsV, oneB, okC, vals, fillV, partsE, Int.reduceLE, Int.reduceLT, Int.reduceToNat, Nat.reduceAdd, Nat.reduceEqDiff, Nat.reduceLT, Nat.reduceLeDiff, Nat.reduceMul, Nat.reduceSub, reduceCtorEq, tbAJb0, Try.results33]
  refine fun b4 h4 => ?_; replace h4 := newb h4; try simp only [Nb] at h4
  simp only [↓ruleA0, ↓ruleA1, ↓ruleA2, ruleB0, ruleB1, ruleB2, ruleB3, ruleL, ↓retK, ncall, Todo_eq, packV, eqTB, litB, litV, fitL, fit, veqL, veq, sbin, sun, nilB, cellsV, oneB, okC, vals, fillV, partsE, Int.reduceLE, Int.reduceLT, Int.reduceToNat, Nat.reduceAdd, Nat.reduceEqDiff, Nat.reduceLT, Nat.reduceLeDiff, Nat.reduceMul, Nat.reduceSub, reduceCtorEq, tbAJb0, Try.results33, h4]
  exact ret_le (Le.agg (.cons (Le.refl _) (.cons (Le.refl _) (.cons (Le.refl _) (.cons (Le.refl _) (.cons (Le.refl _) (.cons (Le.nil 3) (LeL.refl _))))))))
theorem fitR_row (key : Str) (e : Int) : fitR (rowC key e) := ⟨by simp [rowC], by simp [rowC, encL], fun v hv => by cases hv⟩
theorem fit_dEx : fitDs dEx := by
  refine ⟨by simp [dEx, big], fun x hx => ?_⟩
  simp only [dEx, List.mem_cons, List.not_mem_nil, or_false] at hx
  rcases hx with rfl | rfl | rfl
  · exact ⟨by unfold inR; simp only; omega, fitR_row _ _⟩
  · exact ⟨by unfold inR; simp only; omega, fitR_row _ _⟩
  · exact ⟨by unfold inR; simp only; omega, fitR_row _ _⟩
theorem fit_nil (s : Int) : fitA ⟨s, []⟩ := ⟨by simp, by simp [allD, big], fun x hx => by cases hx⟩
theorem fit_aEx : fitA aEx := fit_of fit_dEx
theorem gs_aEx : GsOk aEx.groups := grpsM_ok fit_dEx.okN
theorem fit_bEx : fitA bEx := fit_of (fit_aEx.2.adv 25)
theorem gs_bEx : GsOk bEx.groups := grpsM_ok (fit_aEx.2.adv 25).okN
theorem ex1 : insA ⟨0, []⟩ dEx = (aEx, 0) := by
  unfold insA
  rw [if_neg (by decide)]; rfl
theorem ex2 : rowsA aEx strU 0 1099511627776 15 = ([rowC strU 5], 0) := by decide +kernel
theorem ex3 : rowsA aEx strU 0 1099511627776 20 = ([], 0) := by decide +kernel
theorem ex4 : keysA aEx 15 = ([strU], 0) := by decide +kernel
theorem ex5 : keysA aEx 30 = ([strV], 0) := by decide +kernel
theorem ex6 : advA aEx 25 = (bEx, 0) := by
  unfold advA
  rw [if_neg (by decide), if_neg (by decide)]; rfl
theorem ex7 : rowsA bEx strU 0 1099511627776 24 = ([], 220) := by
  unfold rowsA
  rw [if_pos (by decide)]
theorem ex8 : insA ⟨15, []⟩ dEx = (arr0, 220) := by
  unfold insA
  rw [if_pos (by decide)]
theorem ex9 : bEx = ⟨25, [⟨strV, [⟨rowC strV 7, 30, 1⟩]⟩]⟩ := by decide +kernel
theorem Le.dEx (y : Option Value) : Le (.list y 10 [cDlt ⟨rowC strU 5, 10, 1⟩, cDlt ⟨rowC strU 5, 20, -1⟩, cDlt ⟨rowC strV 7, 30, 1⟩]) (vDlts Go.Proofs.Ytopfanlkbepemaa.dEx) := Le.list _ _ _
/-- What is known of a state, and no more. -/
theorem EX_gen {C : Ctx} {k : List It} {S : St} {Q : Exit → St → Prop} (T : St → Prop) (h : T S) (hk : ∀ S, T S → EX C k S Q) : EX C k S Q := hk S h
set_option linter.defProp false in
def tbAJb1 := (And.intro (And.intro (And.intro (And.intro (And.intro (And.intro (And.intro Ty.sz3 Ty.by3) (And.intro Ty.ag3 Ty.zr3)) (And.intro (And.intro Ty.un3 Ty.sz4) (And.intro Ty.by4 Ty.ag4))) (And.intro (And.intro (And.intro Ty.zr4 Ty.un4) (And.intro Ty.sz9 Ty.by9)) (And.intro (And.intro Ty.ag9 Ty.zr9) (And.intro Ty.un9 (And.intro Ty.sz22 Ty.by22))))) (And.intro (And.intro (And.intro (And.intro Ty.ag22 Ty.zr22) (And.intro Ty.un22 Ty.sz24)) (And.intro (And.intro Ty.by24 Ty.ag24) (And.intro Ty.zr24 Ty.fl24_0))) (And.intro (And.intro (And.intro Ty.pl24_0 Ty.fl24_1) (And.intro Ty.pl24_1 Ty.sz26)) (And.intro (And.intro Ty.by26 Ty.ag26) (And.intro Ty.zr26 (And.intro Ty.fl26_0 Ty.pl26_0)))))) (And.intro (And.intro (And.intro (And.intro (And.intro Ty.fl26_1 Ty.pl26_1) (And.intro Ty.sz29 Ty.by29)) (And.intro (And.intro Ty.ag29 Ty.zr29) (And.intro Ty.un29 Ty.sz30))) (And.intro (And.intro (And.intro Ty.by30 Ty.ag30) (And.intro Ty.sz32 Ty.by32)) (And.intro (And.intro Ty.ag32 Ty.zr32) (And.intro Ty.un32 (And.intro Ty.sz33 Ty.by33))))) (And.intro (And.intro (And.intro (And.intro Ty.ag33 Ty.sz35) (And.intro Ty.by35 Ty.ag35)) (And.intro (And.intro Ty.zr35 Ty.un35) (And.intro Ty.sz36 Ty.by36))) (And.intro (And.intro (And.intro Ty.ag36 Ty.sz41) (And.intro Ty.by41 Ty.ag41)) (And.intro (And.intro Ty.zr41 Ty.un41) (And.intro Ty.sz53 (And.intro Ty.by53 Ty.ag53))))))) (And.intro (And.intro (And.intro (And.intro (And.intro (And.intro Ty.zr53 Ty.fl53_0) (And.intro Ty.pl53_0 Ty.fl53_1)) (And.intro (And.intro Ty.pl53_1 Ty.sz54) (And.intro Ty.by54 Ty.ag54))) (And.intro (And.intro (And.intro Ty.zr54 Ty.un54) (And.intro Ty.sz56 Ty.by56)) (And.intro (And.intro Ty.ag56 Ty.zr56) (And.intro Ty.fl56_0 (And.intro Ty.pl56_0 Ty.fl56_1))))) (And.intro (And.intro (And.intro (And.intro Ty.pl56_1 Ty.fl56_2) (And.intro Ty.pl56_2 Ty.fl56_3)) (And.intro (And.intro Ty.pl56_3 Ty.fl56_4) (And.intro Ty.pl56_4 Ty.fl56_5))) (And.intro (And.intro (And.intro Ty.pl56_5 Ty.fl56_6) (And.intro Ty.pl56_6 Ty.sz61)) (And.intro (And.intro Ty.by61 Ty.ag61) (And.intro Ty.zr61 (And.intro Ty.fl61_0 Ty.pl61_0)))))) (And.intro (And.intro (And.intro (And.intro (And.intro Ty.fl61_1 Ty.pl61_1) (And.intro Ty.fl61_2 Ty.pl61_2)) (And.intro (And.intro Ty.sz65 Ty.by65) (And.intro Ty.ag65 Ty.zr65))) (And.intro (And.intro (And.intro Ty.fl65_0 Ty.pl65_0) (And.intro Ty.fl65_1 Ty.pl65_1)) (And.intro (And.intro Ty.sz109 Ty.by109) (And.intro Ty.ag109 (And.intro Ty.zr109 Ty.fl109_0))))) (And.intro (And.intro (And.intro (And.intro Ty.pl109_0 Ty.fl109_1) (And.intro Ty.pl109_1 Ty.fl109_2)) (And.intro (And.intro Ty.pl109_2 Ty.eq26) (And.intro Ty.eq53 Ty.eq109))) (And.intro (And.intro (And.intro Ty.cb12 Ty.cb13) (And.intro Ty.cb14 Ty.cb15)) (And.intro (And.intro Ty.cb16 Ty.cb17) (And.intro Ty.cb24 (And.intro Ty.cb29 Ty.cb33))))))))
set_option maxHeartbeats 1000000 in
theorem example_gen (aE bE : Arr) (fa : fitA aE) (ga : GsOk aE.groups) (fb : fitA bE) (gb : GsOk bE.groups) (e1 : insA ⟨0, []⟩ dEx = (aE, 0)) (e2 : rowsA aE strU 0 1099511627776 15 = ([rowC strU 5], 0)) (e3 : rowsA aE strU 0 1099511627776 20 = ([], 0)) (e4 : keysA aE 15 = ([strU], 0)) (e5 : keysA aE 30 = ([strV], 0)) (e6 : advA aE 25 = (bE, 0)) (e7 : rowsA bE strU 0 1099511627776 24 = ([], 220))
    (hg : ∃ ds, bE.groups = [⟨strV, ds⟩]) (hs : bE.since = 25) : OkP Try.prog 10 [] (vbool true) := by
  refine Ok.of_ex Ty.mixed Try.func10 rfl (by simp [Try.ntmps10]) (by kernel_rfl) fun F w0 I0 => ?_
  simp only [↓ruleA0, ↓ruleA1, ↓ruleA2, ruleB0, ruleB1, ruleB2, ruleB3, ruleL, ↓retK, ncall, Todo_eq, packV, eqTB, litB, litV, fitL, fit, veqL, veq, sbin, sun, nilB, cellsV, oneB, okC, vals, fillV, partsE, Int.reduceLE, Int.reduceLT, Int.reduceToNat, Nat.reduceAdd, Nat.reduceEqDiff, Nat.reduceLT, Nat.reduceLeDiff, Nat.reduceMul, Nat.reduceSub, reduceCtorEq, tbAJb1, Try.results10]
  refine OkF_of _ (row_ok strU 5) ?_
  simp only [↓ruleA0, ↓ruleA1, ↓ruleA2, ruleB0, ruleB1, ruleB2, ruleB3, ruleL, ↓retK, ncall, Todo_eq, packV, eqTB, litB, litV, fitL, fit, veqL, veq, sbin, sun, nilB, cellsV, oneB, okC, vals, fillV, partsE, Int.reduceLE, Int.reduceLT, Int.reduceToNat, Nat.reduceAdd, Nat.reduceEqDiff, Nat.reduceLT, Nat.reduceLeDiff, Nat.reduceMul, Nat.reduceSub, reduceCtorEq, tbAJb1, Try.results10]
  refine OkF_of _ (row_ok strV 7) ?_
  simp only [↓ruleA0, ↓ruleA1, ↓ruleA2, ruleB0, ruleB1, ruleB2, ruleB3, ruleL, ↓retK, ncall, Todo_eq, packV, eqTB, litB, litV, fitL, fit, veqL, veq, sbin, sun, nilB, cellsV, oneB, okC, vals, fillV, partsE, Int.reduceLE, Int.reduceLT, Int.reduceToNat, Nat.reduceAdd, Nat.reduceEqDiff, Nat.reduceLT, Nat.reduceLeDiff, Nat.reduceMul, Nat.reduceSub, reduceCtorEq, tbAJb1, Try.results10]
  refine fun b1 h1 => ?_; replace h1 := newb h1; try simp only [Nb] at h1
  simp only [↓ruleA0, ↓ruleA1, ↓ruleA2, ruleB0, ruleB1, ruleB2, ruleB3, ruleL, ↓retK, ncall, Todo_eq, packV, eqTB, litB, litV, fitL, fit, veqL, veq, sbin, sun, nilB, cellsV, oneB, okC, vals, fillV, partsE, Int.reduceLE, Int.reduceLT, Int.reduceToNat, Nat.reduceAdd, Nat.reduceEqDiff, Nat.reduceLT, Nat.reduceLeDiff, Nat.reduceMul, Nat.reduceSub, reduceCtorEq, tbAJb1, Try.results10, h1]
  refine fun b2 h2 => ?_; replace h2 := newb h2; try simp only [Nb] at h2
  simp only [↓ruleA0, ↓ruleA1, ↓ruleA2, ruleB0, ruleB1, ruleB2, ruleB3, ruleL, ↓retK, ncall, Todo_eq, packV, eqTB, litB, litV, fitL, fit, veqL, veq, sbin, sun, nilB, cellsV, oneB, okC, vals, fillV, partsE, Int.reduceLE, Int.reduceLT, Int.reduceToNat, Nat.reduceAdd, Nat.reduceEqDiff, Nat.reduceLT, Nat.reduceLeDiff, Nat.reduceMul, Nat.reduceSub, reduceCtorEq, tbAJb1, Try.results10, h1, h2]
  refine fun y => ?_
  refine OkF_of _ (newP_ok 0) ?_
  simp only [↓ruleA0, ↓ruleA1, ↓ruleA2, ruleB0, ruleB1, ruleB2, ruleB3, ruleL, ↓retK, ncall, Todo_eq, packV, eqTB, litB, litV, fitL, fit, veqL, veq, sbin, sun, nilB, cellsV, oneB, okC, vals, fillV, partsE, Int.reduceLE, Int.reduceLT, Int.reduceToNat, Nat.reduceAdd, Nat.reduceEqDiff, Nat.reduceLT, Nat.reduceLeDiff, Nat.reduceMul, Nat.reduceSub, reduceCtorEq, tbAJb1, Try.results10, h1, h2]
  refine OkF_le (.cons (Le.refl _) (.cons (Le.dEx _) .nil)) _ (insP_ok ⟨0, []⟩ dEx (fit_nil 0) fit_dEx) ?_
  rw [e1]
  simp only [↓ruleA0, ↓ruleA1, ↓ruleA2, ruleB0, ruleB1, ruleB2, ruleB3, ruleL, ↓retK, ncall, Todo_eq, packV, eqTB, litB, litV, fitL, fit, veqL, veq, sbin, sun, nilB, cellsV, oneB, okC, vals, fillV, partsE, Int.reduceLE, Int.reduceLT, Int.reduceToNat, Nat.reduceAdd, Nat.reduceEqDiff, Nat.reduceLT, Nat.reduceLeDiff, Nat.reduceMul, Nat.reduceSub, reduceCtorEq, tbAJb1, Try.results10, h1, h2]
  refine fun b4 h4 => ?_; replace h4 := newb h4; try simp only [Nb] at h4
  simp only [↓ruleA0, ↓ruleA1, ↓ruleA2, ruleB0, ruleB1, ruleB2, ruleB3, ruleL, ↓retK, ncall, Todo_eq, packV, eqTB, litB, litV, fitL, fit, veqL, veq, sbin, sun, nilB, cellsV, oneB, okC, vals, fillV, partsE, Int.reduceLE, Int.reduceLT, Int.reduceToNat, Nat.reduceAdd, Nat.reduceEqDiff, Nat.reduceLT, Nat.reduceLeDiff, Nat.reduceMul, Nat.reduceSub, reduceCtorEq, tbAJb1, Try.results10, h1, h2, h4]
  refine CallV_of _ ever_ok.v ?_
  simp only [↓ruleA0, ↓ruleA1, ↓ruleA2, ruleB0, ruleB1, ruleB2, ruleB3, ruleL, ↓retK, ncall, Todo_eq, packV, eqTB, litB, litV, fitL, fit, veqL, veq, sbin, sun, nilB, cellsV, oneB, okC, vals, fillV, partsE, Int.reduceLE, Int.reduceLT, Int.reduceToNat, Nat.reduceAdd, Nat.reduceEqDiff, Nat.reduceLT, Nat.reduceLeDiff, Nat.reduceMul, Nat.reduceSub, reduceCtorEq, tbAJb1, Try.results10, h1, h2, h4]
  refine CallV_of _ (rowsP_ok aE strU 0 1099511627776 15 fa.fitG ga).v ?_
  rw [e2]
  simp only [↓ruleA0, ↓ruleA1, ↓ruleA2, ruleB0, ruleB1, ruleB2, ruleB3, ruleL, ↓retK, ncall, Todo_eq, packV, eqTB, litB, litV, fitL, fit, veqL, veq, sbin, sun, nilB, cellsV, oneB, okC, vals, fillV, partsE, Int.reduceLE, Int.reduceLT, Int.reduceToNat, Nat.reduceAdd, Nat.reduceEqDiff, Nat.reduceLT, Nat.reduceLeDiff, Nat.reduceMul, Nat.reduceSub, reduceCtorEq, tbAJb1, Try.results10, h1, h2, h4]
  refine CallV_of _ ever_ok.v ?_
  simp only [↓ruleA0, ↓ruleA1, ↓ruleA2, ruleB0, ruleB1, ruleB2, ruleB3, ruleL, ↓retK, ncall, Todo_eq, packV, eqTB, litB, litV, fitL, fit, veqL, veq, sbin, sun, nilB, cellsV, oneB, okC, vals, fillV, partsE, Int.reduceLE, Int.reduceLT, Int.reduceToNat, Nat.reduceAdd, Nat.reduceEqDiff, Nat.reduceLT, Nat.reduceLeDiff, Nat.reduceMul, Nat.reduceSub, reduceCtorEq, tbAJb1, Try.results10, h1, h2, h4]
  refine CallV_of _ (rowsP_ok aE strU 0 1099511627776 20 fa.fitG ga).v ?_
  rw [e3]
  simp only [↓ruleA0, ↓ruleA1, ↓ruleA2, ruleB0, ruleB1, ruleB2, ruleB3, ruleL, ↓retK, ncall, Todo_eq, packV, eqTB, litB, litV, fitL, fit, veqL, veq, sbin, sun, nilB, cellsV, oneB, okC, vals, fillV, partsE, Int.reduceLE, Int.reduceLT, Int.reduceToNat, Nat.reduceAdd, Nat.reduceEqDiff, Nat.reduceLT, Nat.reduceLeDiff, Nat.reduceMul, Nat.reduceSub, reduceCtorEq, tbAJb1, Try.results10, h1, h2, h4]
  refine OkF_of _ (keysP2_ok aE 15 fa.fitG) ?_
  rw [e4]
  simp only [↓ruleA0, ↓ruleA1, ↓ruleA2, ruleB0, ruleB1, ruleB2, ruleB3, ruleL, ↓retK, ncall, Todo_eq, packV, eqTB, litB, litV, fitL, fit, veqL, veq, sbin, sun, nilB, cellsV, oneB, okC, vals, fillV, partsE, Int.reduceLE, Int.reduceLT, Int.reduceToNat, Nat.reduceAdd, Nat.reduceEqDiff, Nat.reduceLT, Nat.reduceLeDiff, Nat.reduceMul, Nat.reduceSub, reduceCtorEq, tbAJb1, Try.results10, h1, h2, h4]
  refine OkF_of _ (keysP2_ok aE 30 fa.fitG) ?_
  rw [e5]
  refine EX_gen (fun S => S.σ 1 = ptr b1 ∧ S.σ 2 = ptr b2 ∧ S.σ 3 = .list (some y) 10 [cDlt ⟨rowC strU 5, 10, 1⟩, cDlt ⟨rowC strU 5, 20, -1⟩, cDlt ⟨rowC strV 7, 30, 1⟩] ∧ S.σ 4 = ptr b4 ∧ S.σ 5 = vint 0 ∧ S.σ 6 = vRows [rowC strU 5] ∧ S.σ 7 = vint 0 ∧ S.σ 8 = vRows [] ∧ S.σ 9 = vint 0 ∧ S.σ 10 = vstrs [strU] ∧ S.σ 11 = vint 0 ∧ S.σ 55 = vKeys2 ([strV], 0) ∧ S.boxes = [(b4, .c (cArr aE)), (b2, .c (cRow (rowC strV 7))), (b1, .c (cRow (rowC strU 5)))]) ?_ fun S ⟨q1, q2, q3, q4, q5, q6, q7, q8, q9, q10, q11, q55, qb⟩ => ?_
  · simp only [↓ruleA0, ↓ruleA1, ↓ruleA2, ruleB0, ruleB1, ruleB2, ruleB3, ruleL, ↓retK, ncall, Todo_eq, packV, eqTB, litB, litV, fitL, fit, veqL, veq, sbin, sun, nilB, cellsV, oneB, okC, vals, fillV, partsE, Int.reduceLE, Int.reduceLT, Int.reduceToNat, Nat.reduceAdd, Nat.reduceEqDiff, Nat.reduceLT, Nat.reduceLeDiff, Nat.reduceMul, Nat.reduceSub, reduceCtorEq, tbAJb1, Try.results10, h1, h2, h4]
  simp only [↓ruleA0, ↓ruleA1, ↓ruleA2, ruleB0, ruleB1, ruleB2, ruleB3, ruleL, ↓retK, ncall, Todo_eq, packV, eqTB, litB, litV, fitL, fit, veqL, veq, sbin, sun, nilB, cellsV, oneB, okC, vals, fillV, partsE, Int.reduceLE, Int.reduceLT, Int.reduceToNat, Nat.reduceAdd, Nat.reduceEqDiff, Nat.reduceLT, Nat.reduceLeDiff, Nat.reduceMul, Nat.reduceSub, reduceCtorEq, tbAJb1, Try.results10, h1, h2, h4, q1, q2, q3, q4, q5, q6, q7, q8, q9, q10, q11, q55, qb]
  refine OkF_of _ (advP_ok aE 25 fa) ?_
  rw [e6]
  simp only [↓ruleA0, ↓ruleA1, ↓ruleA2, ruleB0, ruleB1, ruleB2, ruleB3, ruleL, ↓retK, ncall, Todo_eq, packV, eqTB, litB, litV, fitL, fit, veqL, veq, sbin, sun, nilB, cellsV, oneB, okC, vals, fillV, partsE, Int.reduceLE, Int.reduceLT, Int.reduceToNat, Nat.reduceAdd, Nat.reduceEqDiff, Nat.reduceLT, Nat.reduceLeDiff, Nat.reduceMul, Nat.reduceSub, reduceCtorEq, tbAJb1, Try.results10, h1, h2, h4, q1, q2, q3, q4, q5, q6, q7, q8, q9, q10, q11, qb]
  refine fun b14 h14 => ?_; replace h14 := newb h14; try simp only [Nb] at h14
  simp only [↓ruleA0, ↓ruleA1, ↓ruleA2, ruleB0, ruleB1, ruleB2, ruleB3, ruleL, ↓retK, ncall, Todo_eq, packV, eqTB, litB, litV, fitL, fit, veqL, veq, sbin, sun, nilB, cellsV, oneB, okC, vals, fillV, partsE, Int.reduceLE, Int.reduceLT, Int.reduceToNat, Nat.reduceAdd, Nat.reduceEqDiff, Nat.reduceLT, Nat.reduceLeDiff, Nat.reduceMul, Nat.reduceSub, reduceCtorEq, tbAJb1, Try.results10, h1, h2, h4, h14, q1, q2, q3, q4, q5, q6, q7, q8, q9, q10, q11, qb]
  refine CallV_of _ ever_ok.v ?_
  simp only [↓ruleA0, ↓ruleA1, ↓ruleA2, ruleB0, ruleB1, ruleB2, ruleB3, ruleL, ↓retK, ncall, Todo_eq, packV, eqTB, litB, litV, fitL, fit, veqL, veq, sbin, sun, nilB, cellsV, oneB, okC, vals, fillV, partsE, Int.reduceLE, Int.reduceLT, Int.reduceToNat, Nat.reduceAdd, Nat.reduceEqDiff, Nat.reduceLT, Nat.reduceLeDiff, Nat.reduceMul, Nat.reduceSub, reduceCtorEq, tbAJb1, Try.results10, h1, h2, h4, h14, q1, q2, q3, q4, q5, q6, q7, q8, q9, q10, q11, qb]
  refine CallV_of _ (rowsP_ok bE strU 0 1099511627776 24 fb.fitG gb).v ?_
  rw [e7]
  simp only [↓ruleA0, ↓ruleA1, ↓ruleA2, ruleB0, ruleB1, ruleB2, ruleB3, ruleL, ↓retK, ncall, Todo_eq, packV, eqTB, litB, litV, fitL, fit, veqL, veq, sbin, sun, nilB, cellsV, oneB, okC, vals, fillV, partsE, Int.reduceLE, Int.reduceLT, Int.reduceToNat, Nat.reduceAdd, Nat.reduceEqDiff, Nat.reduceLT, Nat.reduceLeDiff, Nat.reduceMul, Nat.reduceSub, reduceCtorEq, tbAJb1, Try.results10, h1, h2, h4, h14, q1, q2, q3, q4, q5, q6, q7, q8, q9, q10, q11, qb]
  refine OkF_of _ (newP_ok 15) ?_
  simp only [↓ruleA0, ↓ruleA1, ↓ruleA2, ruleB0, ruleB1, ruleB2, ruleB3, ruleL, ↓retK, ncall, Todo_eq, packV, eqTB, litB, litV, fitL, fit, veqL, veq, sbin, sun, nilB, cellsV, oneB, okC, vals, fillV, partsE, Int.reduceLE, Int.reduceLT, Int.reduceToNat, Nat.reduceAdd, Nat.reduceEqDiff, Nat.reduceLT, Nat.reduceLeDiff, Nat.reduceMul, Nat.reduceSub, reduceCtorEq, tbAJb1, Try.results10, h1, h2, h4, h14, q1, q2, q3, q4, q5, q6, q7, q8, q9, q10, q11, qb]
  refine OkF_le (.cons (Le.refl _) (.cons (Le.dEx _) .nil)) _ (insP_ok ⟨15, []⟩ dEx (fit_nil 15) fit_dEx) ?_
  rw [ex8]
  refine EX_gen (fun S => S.σ 1 = ptr b1 ∧ S.σ 2 = ptr b2 ∧ S.σ 4 = ptr b4 ∧ S.σ 5 = vint 0 ∧ S.σ 6 = vRows [rowC strU 5] ∧ S.σ 7 = vint 0 ∧ S.σ 8 = vRows [] ∧ S.σ 9 = vint 0 ∧ S.σ 10 = vstrs [strU] ∧ S.σ 11 = vint 0 ∧ S.σ 12 = vstrs [strV] ∧ S.σ 13 = vint 0 ∧ S.σ 14 = ptr b14 ∧ S.σ 15 = vint 0 ∧ S.σ 17 = vint 220 ∧ S.σ 72 = vRes (arr0, 220) ∧ S.boxes = [(b14, .c (cArr bE)), (b4, .c (cArr aE)), (b2, .c (cRow (rowC strV 7))), (b1, .c (cRow (rowC strU 5)))]) ?_ fun S ⟨q1, q2, q4, q5, q6, q7, q8, q9, q10, q11, q12, q13, q14, q15, q17, q72, qb⟩ => ?_
  · simp only [↓ruleA0, ↓ruleA1, ↓ruleA2, ruleB0, ruleB1, ruleB2, ruleB3, ruleL, ↓retK, ncall, Todo_eq, packV, eqTB, litB, litV, fitL, fit, veqL, veq, sbin, sun, nilB, cellsV, oneB, okC, vals, fillV, partsE, Int.reduceLE, Int.reduceLT, Int.reduceToNat, Nat.reduceAdd, Nat.reduceEqDiff, Nat.reduceLT, Nat.reduceLeDiff, Nat.reduceMul, Nat.reduceSub, reduceCtorEq, tbAJb1, Try.results10, h1, h2, h4, h14, q1, q2, q3, q4, q5, q6, q7, q8, q9, q10, q11, qb]
  simp only [↓ruleA0, ↓ruleA1, ↓ruleA2, ruleB0, ruleB1, ruleB2, ruleB3, ruleL, ↓retK, ncall, Todo_eq, packV, eqTB, litB, litV, fitL, fit, veqL, veq, sbin, sun, nilB, cellsV, oneB, okC, vals, fillV, partsE, Int.reduceLE, Int.reduceLT, Int.reduceToNat, Nat.reduceAdd, Nat.reduceEqDiff, Nat.reduceLT, Nat.reduceLeDiff, Nat.reduceMul, Nat.reduceSub, reduceCtorEq, tbAJb1, Try.results10, h1, h2, h4, h14, q1, q2, q4, q5, q6, q7, q8, q9, q10, q11, q12, q13, q14, q15, q17, q72, qb]
  refine fun b18 h18 => ?_; replace h18 := newb h18; try simp only [Nb] at h18
  simp only [↓ruleA0, ↓ruleA1, ↓ruleA2, ruleB0, ruleB1, ruleB2, ruleB3, ruleL, ↓retK, ncall, Todo_eq, packV, eqTB, litB, litV, fitL, fit, veqL, veq, sbin, sun, nilB, cellsV, oneB, okC, vals, fillV, partsE, Int.reduceLE, Int.reduceLT, Int.reduceToNat, Nat.reduceAdd, Nat.reduceEqDiff, Nat.reduceLT, Nat.reduceLeDiff, Nat.reduceMul, Nat.reduceSub, reduceCtorEq, tbAJb1, Try.results10, h1, h2, h4, h14, h18, q1, q2, q4, q5, q6, q7, q8, q9, q10, q11, q12, q13, q14, q15, q17, q72, qb]
  refine fun y1 => ?_
  refine OkF_le (.cons (Le.refl _) (.cons (show Le (.list (some y1) 8 [cRow (rowC strU 5)]) (vRows [rowC strU 5]) from Le.list _ _ _) .nil)) _ (sameRows_ok [rowC strU 5] [rowC strU 5] (by simp only [List.length_cons, List.length_nil]; omega) (fun r hr => by simp only [List.mem_cons, List.not_mem_nil, or_false] at hr; subst hr; exact (fitR_row _ _).okF)) ?_
  simp only [↓ruleA0, ↓ruleA1, ↓ruleA2, ruleB0, ruleB1, ruleB2, ruleB3, ruleL, ↓retK, ncall, Todo_eq, packV, eqTB, litB, litV, fitL, fit, veqL, veq, sbin, sun, nilB, cellsV, oneB, okC, vals, fillV, partsE, Int.reduceLE, Int.reduceLT, Int.reduceToNat, Nat.reduceAdd, Nat.reduceEqDiff, Nat.reduceLT, Nat.reduceLeDiff, Nat.reduceMul, Nat.reduceSub, reduceCtorEq, tbAJb1, Try.results10, h1, h2, h4, h14, h18, q1, q2, q4, q5, q6, q7, q8, q9, q10, q11, q12, q13, q14, q15, q17, qb]
  refine fun y2 => ?_
  refine OkF_le (.cons (Le.refl _) (.cons (show Le (.list (some y2) 1 [[vstr strU]]) (vstrs [strU]) from Le.list _ _ _) .nil)) _ (sameKeys_ok [strU] [strU] (by simp only [List.length_cons, List.length_nil]; omega)) ?_
  simp only [↓ruleA0, ↓ruleA1, ↓ruleA2, ruleB0, ruleB1, ruleB2, ruleB3, ruleL, ↓retK, ncall, Todo_eq, packV, eqTB, litB, litV, fitL, fit, veqL, veq, sbin, sun, nilB, cellsV, oneB, okC, vals, fillV, partsE, Int.reduceLE, Int.reduceLT, Int.reduceToNat, Nat.reduceAdd, Nat.reduceEqDiff, Nat.reduceLT, Nat.reduceLeDiff, Nat.reduceMul, Nat.reduceSub, reduceCtorEq, tbAJb1, Try.results10, h1, h2, h4, h14, h18, q1, q2, q4, q5, q6, q7, q8, q9, q10, q11, q12, q13, q14, q15, q17, qb]
  refine fun y3 => ?_
  refine OkF_le (.cons (Le.refl _) (.cons (show Le (.list (some y3) 1 [[vstr strV]]) (vstrs [strV]) from Le.list _ _ _) .nil)) _ (sameKeys_ok [strV] [strV] (by simp only [List.length_cons, List.length_nil]; omega)) ?_
  obtain ⟨ds, hg⟩ := hg
  have n1 : ((1 : Nat) : Int) = 1 := rfl
  have n2 : strV = ⟨#[118]⟩ := rfl
  simp only [↓ruleA0, ↓ruleA1, ↓ruleA2, ruleB0, ruleB1, ruleB2, ruleB3, ruleL, ↓retK, ncall, Todo_eq, packV, eqTB, litB, litV, fitL, fit, veqL, veq, sbin, sun, nilB, cellsV, oneB, okC, vals, fillV, partsE, Int.reduceLE, Int.reduceLT, Int.reduceToNat, Nat.reduceAdd, Nat.reduceEqDiff, Nat.reduceLT, Nat.reduceLeDiff, Nat.reduceMul, Nat.reduceSub, reduceCtorEq, tbAJb1, Try.results10, h1, h2, h4, h14, h18, hg, hs, n1, n2, q1, q2, q4, q5, q6, q7, q8, q9, q10, q11, q12, q13, q14, q15, q17, qb]
  exact ret_done rfl
theorem example_ok : OkP Try.prog 10 [] (vbool true) :=
  example_gen aEx bEx fit_aEx gs_aEx fit_bEx gs_bEx ex1 ex2 ex3 ex4 ex5 ex6 ex7 ⟨_, by rw [ex9]⟩ (by rw [ex9])
end Go.Proofs.Ytopfanlkbepemaa

/- Arrangements: the plain laws, put together; ArrangeCompacts. -/
set_option linter.unusedSimpArgs false
set_option maxRecDepth 100000
namespace Go.Proofs.Ytopfanlkbepemaa
open Go.VL Go.Ar Go.Proofs.Ytopfanlkbepemaa

theorem rowsAt_advD (d : List Dlt) {s t : Int} (h : s ≤ t) : rowsAt (advD s d) t = rowsAt d t := by unfold rowsAt; rw [early_adv d h]
theorem rowsAt_ofM {s : Int} {d : List Dlt} (hd : okN d) (k : Str) (t : Int) : rowsAt (partD (allD (ofM s d).groups) k) t = rowsAt (partD d k) t :=
  rowsAt_congr (okN_part (grpsM_ok hd).okN k) (okN_part hd k) ((grpsM_coef hd).part k) t
theorem rowsK_fit {a : Arr} (ha : fitA a) (k : Str) (lo hi t : Int) : (rowsK a k lo hi t).length ≤ big ∧ ∀ r ∈ rowsK a k lo hi t, okF r := by
  unfold rowsK
  constructor
  · exact Nat.le_trans (List.length_filter_le _ _) (Nat.le_trans (rowsAt_le _ _) (Nat.le_trans (List.length_filter_le _ _) ha.2.1))
  · intro r hr
    have hr := (List.mem_filter.1 hr).1
    unfold rowsAt rowsM at hr
    obtain ⟨x, hx, rfl⟩ := List.mem_map.1 hr
    obtain ⟨y, hy, _, e⟩ := consM_keys x (List.mem_filter.1 hx).1
    obtain ⟨z, hz, rfl⟩ := List.mem_map.1 hy
    rw [e]
    exact ((ha.2.2 z (List.mem_filter.1 (List.mem_filter.1 hz).1).1).2).okF
theorem keysP_len {l : List Grp} (h : l.length ≤ big) (t : Int) : (keysP l t).length ≤ big := by
  unfold keysP
  rw [List.length_map]
  exact Nat.le_trans (List.length_filter_le _ _) h
theorem right_valid {a : Arr} {d : List Dlt} (ha : fitA a) (h : rightM a d = true) : ArrOk a := by
  unfold rightM at h
  simp only [Bool.and_eq_true, decide_eq_true_eq] at h
  have hv : ValidA a := by
    have h2 := h.2
    unfold checkM at h2
    by_cases hv : ValidA a
    · exact hv
    · rw [if_neg hv] at h2; cases h2
  exact (valid_iff ha.2.okN).1 hv
theorem right_few {a : Arr} {d : List Dlt} (h : rightM a d = true) : d.length + a.groups.length + (allD a.groups).length ≤ 200 := by
  unfold rightM fewM at h
  simp only [Bool.and_eq_true, decide_eq_true_eq] at h
  exact h.1
theorem adv_zero {a b : Arr} {s : Int} (h : advA a s = (b, 0)) : s ≤ maxT ∧ a.since ≤ s ∧ b = ofM s (advD s (allD a.groups)) := by
  unfold advA at h
  split at h
  · simp only [Prod.mk.injEq] at h; exact absurd h.2 (by decide)
  · split at h
    · simp only [Prod.mk.injEq] at h; exact absurd h.2 (by decide)
    · simp only [Prod.mk.injEq] at h
      exact ⟨by omega, by omega, h.1.symm⟩
theorem rows_adv {a : Arr} (ha : fitA a) {s t : Int} (h : s ≤ t) (k : Str) (lo hi : Int) : rowsK (ofM s (advD s (allD a.groups))) k lo hi t = rowsK a k lo hi t := by
  unfold rowsK
  rw [rowsAt_ofM (okN_adv ha.2.okN s), part_adv, rowsAt_advD _ h]
theorem keys_adv {a : Arr} (ha : fitA a) (hg : GsOk a.groups) {s t : Int} (h : s ≤ t) : keysP (ofM s (advD s (allD a.groups))).groups t = keysP a.groups t :=
  keysP_congr (grpsM_ok (okN_adv ha.2.okN s)) hg fun k => by
    have := rowsAt_ofM (s := s) (okN_adv ha.2.okN s) k t
    rw [part_adv, rowsAt_advD _ h] at this
    exact this
theorem rowsA_late {a : Arr} {t : Int} (h : t < a.since) (k : Str) (lo hi : Int) : rowsA a k lo hi t = ([], 220) := by unfold rowsA; rw [if_pos h]
theorem rowsA_in {a : Arr} {t : Int} (h : ¬ t < a.since) (k : Str) (lo hi : Int) : rowsA a k lo hi t = (rowsK a k lo hi t, 0) := by unfold rowsA; rw [if_neg h]
theorem keysA_late {a : Arr} {t : Int} (h : t < a.since) : keysA a t = ([], 220) := by unfold keysA; rw [if_pos h]
theorem keysA_in {a : Arr} {t : Int} (h : ¬ t < a.since) : keysA a t = (keysP a.groups t, 0) := by unfold keysA; rw [if_neg h]
theorem sameRows_self (l : List Rw) (hl : l.length ≤ big) (hf : ∀ r ∈ l, okF r) : OkP Try.prog 15 [vRows l, vRows l] (vbool true) := by
  have := sameRows_ok l l (Nat.le_trans hl (by decide)) hf
  rwa [decide_eq_true rfl] at this
theorem sameKeys_self (l : List Str) (hl : l.length ≤ big) : OkP Try.prog 16 [vstrs l, vstrs l] (vbool true) := by
  have := sameKeys_ok l l (Nat.le_trans hl (by decide))
  rwa [decide_eq_true rfl] at this
theorem same_self (a : Arr) (ha : fitA a) : OkP Try.prog 18 [vArr a, vArr a] (vbool true) := by
  have := same_ok a a ha.okGs
  rwa [decide_eq_true rfl] at this

set_option linter.defProp false in
def tbAK0 := (And.intro (And.intro (And.intro (And.intro (And.intro (And.intro (And.intro Ty.sz3 Ty.by3) (And.intro Ty.ag3 Ty.zr3)) (And.intro (And.intro Ty.un3 Ty.sz4) (And.intro Ty.by4 Ty.ag4))) (And.intro (And.intro (And.intro Ty.zr4 Ty.un4) (And.intro Ty.sz9 Ty.by9)) (And.intro (And.intro Ty.ag9 Ty.zr9) (And.intro Ty.un9 Ty.sz22)))) (And.intro (And.intro (And.intro (And.intro Ty.by22 Ty.ag22) (And.intro Ty.zr22 Ty.un22)) (And.intro (And.intro Ty.sz24 Ty.by24) (And.intro Ty.ag24 Ty.zr24))) (And.intro (And.intro (And.intro Ty.fl24_0 Ty.pl24_0) (And.intro Ty.fl24_1 Ty.pl24_1)) (And.intro (And.intro Ty.sz26 Ty.by26) (And.intro Ty.ag26 (And.intro Ty.zr26 Ty.fl26_0)))))) (And.intro (And.intro (And.intro (And.intro (And.intro Ty.pl26_0 Ty.fl26_1) (And.intro Ty.pl26_1 Ty.sz29)) (And.intro (And.intro Ty.by29 Ty.ag29) (And.intro Ty.zr29 Ty.un29))) (And.intro (And.intro (And.intro Ty.sz30 Ty.by30) (And.intro Ty.ag30 Ty.sz32)) (And.intro (And.intro Ty.by32 Ty.ag32) (And.intro Ty.zr32 (And.intro Ty.un32 Ty.sz33))))) (And.intro (And.intro (And.intro (And.intro Ty.by33 Ty.ag33) (And.intro Ty.sz35 Ty.by35)) (And.intro (And.intro Ty.ag35 Ty.zr35) (And.intro Ty.un35 Ty.sz36))) (And.intro (And.intro (And.intro Ty.by36 Ty.ag36) (And.intro Ty.sz41 Ty.by41)) (And.intro (And.intro Ty.ag41 Ty.zr41) (And.intro Ty.un41 (And.intro Ty.sz53 Ty.by53))))))) (And.intro (And.intro (And.intro (And.intro (And.intro (And.intro Ty.ag53 Ty.zr53) (And.intro Ty.fl53_0 Ty.pl53_0)) (And.intro (And.intro Ty.fl53_1 Ty.pl53_1) (And.intro Ty.sz54 Ty.by54))) (And.intro (And.intro (And.intro Ty.ag54 Ty.zr54) (And.intro Ty.un54 Ty.sz56)) (And.intro (And.intro Ty.by56 Ty.ag56) (And.intro Ty.zr56 Ty.fl56_0)))) (And.intro (And.intro (And.intro (And.intro Ty.pl56_0 Ty.fl56_1) (And.intro Ty.pl56_1 Ty.fl56_2)) (And.intro (And.intro Ty.pl56_2 Ty.fl56_3) (And.intro Ty.pl56_3 Ty.fl56_4))) (And.intro (And.intro (And.intro Ty.pl56_4 Ty.fl56_5) (And.intro Ty.pl56_5 Ty.fl56_6)) (And.intro (And.intro Ty.pl56_6 Ty.sz61) (And.intro Ty.by61 (And.intro Ty.ag61 Ty.zr61)))))) (And.intro (And.intro (And.intro (And.intro (And.intro Ty.fl61_0 Ty.pl61_0) (And.intro Ty.fl61_1 Ty.pl61_1)) (And.intro (And.intro Ty.fl61_2 Ty.pl61_2) (And.intro Ty.sz65 Ty.by65))) (And.intro (And.intro (And.intro Ty.ag65 Ty.zr65) (And.intro Ty.fl65_0 Ty.pl65_0)) (And.intro (And.intro Ty.fl65_1 Ty.pl65_1) (And.intro Ty.sz109 (And.intro Ty.by109 Ty.ag109))))) (And.intro (And.intro (And.intro (And.intro Ty.zr109 Ty.fl109_0) (And.intro Ty.pl109_0 Ty.fl109_1)) (And.intro (And.intro Ty.pl109_1 Ty.fl109_2) (And.intro Ty.pl109_2 Ty.eq26))) (And.intro (And.intro (And.intro Ty.eq53 Ty.eq109) (And.intro Ty.cb10 Ty.cb11)) (And.intro (And.intro Ty.cb12 Ty.cb13) (And.intro Ty.cb14 (And.intro Ty.cb15 Ty.cb16))))))))
theorem compacts_ok (a : Arr) (since : Int) (key : Str) (lo hi tick : Int) (ha : fitA a) : OkP Try.prog 3 [vArr a, vint since, vstr key, .agg [vint lo, vint hi], vint tick] (vbool true) := by
  refine Ok.of_ex Ty.mixed Try.func3 rfl (by simp [Try.ntmps3]) (by kernel_rfl) fun F w0 I0 => ?_
  simp only [↓ruleA0, ↓ruleA1, ↓ruleA2, ruleB0, ruleB1, ruleB2, ruleB3, ruleL, ↓retK, ncall, Todo_eq, packV, eqTB, litB, litV, fitL, fit, veqL, veq, sbin, sun, nilB, cellsV, oneB, okC, vals, fillV, partsE, Int.reduceLE, Int.reduceLT, Int.reduceToNat, Nat.reduceAdd, Nat.reduceEqDiff, Nat.reduceLT, Nat.reduceLeDiff, Nat.reduceMul, Nat.reduceSub, reduceCtorEq, tbAK0, Try.results3]
  refine fun b5 h5 => ?_; replace h5 := newb h5; try simp only [Nb] at h5
  simp only [↓ruleA0, ↓ruleA1, ↓ruleA2, ruleB0, ruleB1, ruleB2, ruleB3, ruleL, ↓retK, ncall, Todo_eq, packV, eqTB, litB, litV, fitL, fit, veqL, veq, sbin, sun, nilB, cellsV, oneB, okC, vals, fillV, partsE, Int.reduceLE, Int.reduceLT, Int.reduceToNat, Nat.reduceAdd, Nat.reduceEqDiff, Nat.reduceLT, Nat.reduceLeDiff, Nat.reduceMul, Nat.reduceSub, reduceCtorEq, tbAK0, Try.results3]
  refine fun b8 h8 => ?_; replace h8 := newb h8; try simp only [Nb] at h8
  simp only [↓ruleA0, ↓ruleA1, ↓ruleA2, ruleB0, ruleB1, ruleB2, ruleB3, ruleL, ↓retK, ncall, Todo_eq, packV, eqTB, litB, litV, fitL, fit, veqL, veq, sbin, sun, nilB, cellsV, oneB, okC, vals, fillV, partsE, Int.reduceLE, Int.reduceLT, Int.reduceToNat, Nat.reduceAdd, Nat.reduceEqDiff, Nat.reduceLT, Nat.reduceLeDiff, Nat.reduceMul, Nat.reduceSub, reduceCtorEq, tbAK0, Try.results3, h5, h8]
  refine OkF_of _ example_ok ?_
  simp only [↓ruleA0, ↓ruleA1, ↓ruleA2, ruleB0, ruleB1, ruleB2, ruleB3, ruleL, ↓retK, ncall, Todo_eq, packV, eqTB, litB, litV, fitL, fit, veqL, veq, sbin, sun, nilB, cellsV, oneB, okC, vals, fillV, partsE, Int.reduceLE, Int.reduceLT, Int.reduceToNat, Nat.reduceAdd, Nat.reduceEqDiff, Nat.reduceLT, Nat.reduceLeDiff, Nat.reduceMul, Nat.reduceSub, reduceCtorEq, tbAK0, Try.results3, h5, h8]
  refine OkF_le (.cons (Le.refl _) (.cons (Le.nil 10) .nil)) _ (right_ok a [] ha (Nat.zero_le _)) ?_
  cases hr : rightM a []
  · simp only [↓ruleA0, ↓ruleA1, ↓ruleA2, ruleB0, ruleB1, ruleB2, ruleB3, ruleL, ↓retK, ncall, Todo_eq, packV, eqTB, litB, litV, fitL, fit, veqL, veq, sbin, sun, nilB, cellsV, oneB, okC, vals, fillV, partsE, Int.reduceLE, Int.reduceLT, Int.reduceToNat, Nat.reduceAdd, Nat.reduceEqDiff, Nat.reduceLT, Nat.reduceLeDiff, Nat.reduceMul, Nat.reduceSub, reduceCtorEq, tbAK0, Try.results3, h5, h8]
    exact ret_done rfl
  have hv := right_valid ha hr
  simp only [↓ruleA0, ↓ruleA1, ↓ruleA2, ruleB0, ruleB1, ruleB2, ruleB3, ruleL, ↓retK, ncall, Todo_eq, packV, eqTB, litB, litV, fitL, fit, veqL, veq, sbin, sun, nilB, cellsV, oneB, okC, vals, fillV, partsE, Int.reduceLE, Int.reduceLT, Int.reduceToNat, Nat.reduceAdd, Nat.reduceEqDiff, Nat.reduceLT, Nat.reduceLeDiff, Nat.reduceMul, Nat.reduceSub, reduceCtorEq, tbAK0, Try.results3, h5, h8]
  refine OkF_of _ (advP_ok a since ha) ?_
  generalize hp : advA a since = p
  obtain ⟨b, e⟩ := p
  simp only [↓ruleA0, ↓ruleA1, ↓ruleA2, ruleB0, ruleB1, ruleB2, ruleB3, ruleL, ↓retK, ncall, Todo_eq, packV, eqTB, litB, litV, fitL, fit, veqL, veq, sbin, sun, nilB, cellsV, oneB, okC, vals, fillV, partsE, Int.reduceLE, Int.reduceLT, Int.reduceToNat, Nat.reduceAdd, Nat.reduceEqDiff, Nat.reduceLT, Nat.reduceLeDiff, Nat.reduceMul, Nat.reduceSub, reduceCtorEq, tbAK0, Try.results3, h5, h8]
  refine fun b12 h12 => ?_; replace h12 := newb h12; try simp only [Nb] at h12
  by_cases he : e = 0
  · subst he
    obtain ⟨p1, p2, rfl⟩ := adv_zero hp
    have hbf : fitA (ofM since (advD since (allD a.groups))) := fit_of (ha.2.adv since)
    have hbg : GsOk (ofM since (advD since (allD a.groups))).groups := grpsM_ok (okN_adv ha.2.okN since)
    simp only [↓ruleA0, ↓ruleA1, ↓ruleA2, ruleB0, ruleB1, ruleB2, ruleB3, ruleL, ↓retK, ncall, Todo_eq, packV, eqTB, litB, litV, fitL, fit, veqL, veq, sbin, sun, nilB, cellsV, oneB, okC, vals, fillV, partsE, Int.reduceLE, Int.reduceLT, Int.reduceToNat, Nat.reduceAdd, Nat.reduceEqDiff, Nat.reduceLT, Nat.reduceLeDiff, Nat.reduceMul, Nat.reduceSub, reduceCtorEq, tbAK0, Try.results3, h5, h8, h12]
    refine OkF_of _ (rowsP_ok _ key lo hi tick hbf.fitG hbg) ?_
    by_cases ht : tick < since
    · rw [rowsA_late (a := (ofM since (advD since (allD a.groups)))) ht]
      simp only [↓ruleA0, ↓ruleA1, ↓ruleA2, ruleB0, ruleB1, ruleB2, ruleB3, ruleL, ↓retK, ncall, Todo_eq, packV, eqTB, litB, litV, fitL, fit, veqL, veq, sbin, sun, nilB, cellsV, oneB, okC, vals, fillV, partsE, Int.reduceLE, Int.reduceLT, Int.reduceToNat, Nat.reduceAdd, Nat.reduceEqDiff, Nat.reduceLT, Nat.reduceLeDiff, Nat.reduceMul, Nat.reduceSub, reduceCtorEq, tbAK0, Try.results3, h5, h8, h12]
      refine OkF_of _ (keysP2_ok _ tick hbf.fitG) ?_
      rw [keysA_late (a := (ofM since (advD since (allD a.groups)))) ht]
      simp only [↓ruleA0, ↓ruleA1, ↓ruleA2, ruleB0, ruleB1, ruleB2, ruleB3, ruleL, ↓retK, ncall, Todo_eq, packV, eqTB, litB, litV, fitL, fit, veqL, veq, sbin, sun, nilB, cellsV, oneB, okC, vals, fillV, partsE, Int.reduceLE, Int.reduceLT, Int.reduceToNat, Nat.reduceAdd, Nat.reduceEqDiff, Nat.reduceLT, Nat.reduceLeDiff, Nat.reduceMul, Nat.reduceSub, reduceCtorEq, tbAK0, Try.results3, h5, h8, h12, ht]
      exact ret_done rfl
    · rw [rowsA_in (a := (ofM since (advD since (allD a.groups)))) ht, rows_adv ha (show since ≤ tick by omega)]
      simp only [↓ruleA0, ↓ruleA1, ↓ruleA2, ruleB0, ruleB1, ruleB2, ruleB3, ruleL, ↓retK, ncall, Todo_eq, packV, eqTB, litB, litV, fitL, fit, veqL, veq, sbin, sun, nilB, cellsV, oneB, okC, vals, fillV, partsE, Int.reduceLE, Int.reduceLT, Int.reduceToNat, Nat.reduceAdd, Nat.reduceEqDiff, Nat.reduceLT, Nat.reduceLeDiff, Nat.reduceMul, Nat.reduceSub, reduceCtorEq, tbAK0, Try.results3, h5, h8, h12]
      refine OkF_of _ (keysP2_ok _ tick hbf.fitG) ?_
      rw [keysA_in (a := (ofM since (advD since (allD a.groups)))) ht, keys_adv ha hv.gs (show since ≤ tick by omega)]
      simp only [↓ruleA0, ↓ruleA1, ↓ruleA2, ruleB0, ruleB1, ruleB2, ruleB3, ruleL, ↓retK, ncall, Todo_eq, packV, eqTB, litB, litV, fitL, fit, veqL, veq, sbin, sun, nilB, cellsV, oneB, okC, vals, fillV, partsE, Int.reduceLE, Int.reduceLT, Int.reduceToNat, Nat.reduceAdd, Nat.reduceEqDiff, Nat.reduceLT, Nat.reduceLeDiff, Nat.reduceMul, Nat.reduceSub, reduceCtorEq, tbAK0, Try.results3, h5, h8, h12, ht]
      refine OkF_of _ (rowsP_ok a key lo hi tick ha.fitG hv.gs) ?_
      rw [rowsA_in (a := a) (show ¬ tick < a.since by omega)]
      simp only [↓ruleA0, ↓ruleA1, ↓ruleA2, ruleB0, ruleB1, ruleB2, ruleB3, ruleL, ↓retK, ncall, Todo_eq, packV, eqTB, litB, litV, fitL, fit, veqL, veq, sbin, sun, nilB, cellsV, oneB, okC, vals, fillV, partsE, Int.reduceLE, Int.reduceLT, Int.reduceToNat, Nat.reduceAdd, Nat.reduceEqDiff, Nat.reduceLT, Nat.reduceLeDiff, Nat.reduceMul, Nat.reduceSub, reduceCtorEq, tbAK0, Try.results3, h5, h8, h12]
      refine OkF_of _ (keysP2_ok a tick ha.fitG) ?_
      rw [keysA_in (a := a) (show ¬ tick < a.since by omega)]
      simp only [↓ruleA0, ↓ruleA1, ↓ruleA2, ruleB0, ruleB1, ruleB2, ruleB3, ruleL, ↓retK, ncall, Todo_eq, packV, eqTB, litB, litV, fitL, fit, veqL, veq, sbin, sun, nilB, cellsV, oneB, okC, vals, fillV, partsE, Int.reduceLE, Int.reduceLT, Int.reduceToNat, Nat.reduceAdd, Nat.reduceEqDiff, Nat.reduceLT, Nat.reduceLeDiff, Nat.reduceMul, Nat.reduceSub, reduceCtorEq, tbAK0, Try.results3, h5, h8, h12]
      refine OkF_of _ (sameRows_self _ (rowsK_fit ha key lo hi tick).1 (rowsK_fit ha key lo hi tick).2) ?_
      simp only [↓ruleA0, ↓ruleA1, ↓ruleA2, ruleB0, ruleB1, ruleB2, ruleB3, ruleL, ↓retK, ncall, Todo_eq, packV, eqTB, litB, litV, fitL, fit, veqL, veq, sbin, sun, nilB, cellsV, oneB, okC, vals, fillV, partsE, Int.reduceLE, Int.reduceLT, Int.reduceToNat, Nat.reduceAdd, Nat.reduceEqDiff, Nat.reduceLT, Nat.reduceLeDiff, Nat.reduceMul, Nat.reduceSub, reduceCtorEq, tbAK0, Try.results3, h5, h8, h12]
      refine OkF_of _ (sameKeys_self _ (keysP_len ha.1 tick)) ?_
      simp only [↓ruleA0, ↓ruleA1, ↓ruleA2, ruleB0, ruleB1, ruleB2, ruleB3, ruleL, ↓retK, ncall, Todo_eq, packV, eqTB, litB, litV, fitL, fit, veqL, veq, sbin, sun, nilB, cellsV, oneB, okC, vals, fillV, partsE, Int.reduceLE, Int.reduceLT, Int.reduceToNat, Nat.reduceAdd, Nat.reduceEqDiff, Nat.reduceLT, Nat.reduceLeDiff, Nat.reduceMul, Nat.reduceSub, reduceCtorEq, tbAK0, Try.results3, h5, h8, h12]
      exact ret_done rfl
  · simp only [↓ruleA0, ↓ruleA1, ↓ruleA2, ruleB0, ruleB1, ruleB2, ruleB3, ruleL, ↓retK, ncall, Todo_eq, packV, eqTB, litB, litV, fitL, fit, veqL, veq, sbin, sun, nilB, cellsV, oneB, okC, vals, fillV, partsE, Int.reduceLE, Int.reduceLT, Int.reduceToNat, Nat.reduceAdd, Nat.reduceEqDiff, Nat.reduceLT, Nat.reduceLeDiff, Nat.reduceMul, Nat.reduceSub, reduceCtorEq, tbAK0, Try.results3, h5, h8, h12, he]
    exact ret_done rfl
end Go.Proofs.Ytopfanlkbepemaa

/- Arrangements: what comes in: arrangements, differences, identifiers out of typed cells; how much they hold. -/
set_option linter.unusedSimpArgs false
set_option maxRecDepth 100000
namespace Go.Proofs.Ytopfanlkbepemaa
open Go.VL Go.Ar Go.Proofs.Ytopfanlkbepemaa

theorem LeL_ats {w : World} {I : Cells} {b : Nat} : ∀ {l l' : List V} {o : Nat}, LeL l l' → V.ats w I l b o → V.ats w I l' b o
  | _, _, _, .nil, _ => by simp only [V.ats]
  | _, _, o, .cons h r, ha => by
    simp only [V.ats] at ha ⊢
    obtain ⟨⟨x, h1, h2, h3, h4⟩, h5⟩ := ha
    exact ⟨⟨x, h1, h2, h3, h w I x h4⟩, LeL_ats r h5⟩
theorem LeL_len : ∀ {l l' : List V}, LeL l l' → l.length = l'.length
  | _, _, .nil => rfl
  | _, _, .cons _ r => by simp [LeL_len r]
inductive LeLL : List (List V) → List (List V) → Prop
  | nil : LeLL [] []
  | cons {e e' : List V} {l l' : List (List V)} (h : LeL e e') (r : LeLL l l') : LeLL (e :: l) (e' :: l')
theorem LeLL.len : ∀ {l l' : List (List V)}, LeLL l l' → l.length = l'.length
  | _, _, .nil => rfl
  | _, _, .cons _ r => by simp [r.len]
theorem LeLL.lies {w : World} {I : Cells} {b k : Nat} : ∀ {l l' : List (List V)} {o : Nat}, LeLL l l' → V.lies w I k l b o → V.lies w I k l' b o
  | _, _, _, .nil, _ => by simp only [V.lies]
  | _, _, o, .cons h r, ha => by
    simp only [V.lies] at ha ⊢
    exact ⟨LeL_ats h ha.1, LeL_len h ▸ ha.2.1, r.lies ha.2.2⟩
theorem Le.lists {own : Option Value} {k : Nat} {es es' : List (List V)} (h : LeLL es es') : Le (.list own k es) (.list none k es') := by
  intro w I x hx
  simp only [V.rep] at hx ⊢
  obtain ⟨_, a, c, h1, h2, h3⟩ := hx
  refine ⟨fun y hy => (by cases hy), a, c, h.len ▸ h1, h.len ▸ h2, ?_⟩
  rcases h3 with e | ⟨b, o, e, hl⟩
  · subst e
    cases h
    exact .inl rfl
  · exact .inr ⟨b, o, e, h.lies hl⟩

theorem bulks_pos : ∀ vs : List V, vs.length ≤ V.bulks vs
  | [] => Nat.zero_le _
  | v :: r => by
    have := bulks_pos r
    have h1 : 1 ≤ V.bulk v := by
      cases v with
      | lit x => cases x <;> simp [V.bulk]
      | list a k es => simp [V.bulk]
      | _ => simp [V.bulk]
    simp only [V.bulks, List.length_cons]; omega

/-- The elements of a slice that came in. -/
theorem inv_slice {α : Type} {t e : TypeId} {k : Nat} (hu : Try.prog.underlying t = some (.slice e)) (hk : Try.prog.cellsOf e = k) (c : α → List V) (G : α → Nat → Prop) (wt : α → Nat) (m : Nat)
    (inv : ∀ {d vs}, TV Try.prog d e vs → ∃ x, LeL vs (c x) ∧ G x (V.bulks vs) ∧ wt x ≤ m * V.bulks vs) (mono : ∀ x n n', n ≤ n' → G x n → G x n') (pos : ∀ x, 0 < (c x).length) {d : Nat} {v : V} (h : TV Try.prog d t [v]) :
    ∃ l : List α, Le v (.list none k (l.map c)) ∧ l.length ≤ V.bulk v ∧ (l.map wt).sum ≤ m * V.bulk v ∧ ∀ x ∈ l, G x (V.bulk v) := by
  cases d with
  | zero => exact h.elim
  | succ d =>
    simp only [TV, hu] at h
    rcases h with h | ⟨es, h, hmax, hes⟩
    · cases h
      exact ⟨[], Le.nil k, Nat.zero_le _, Nat.zero_le _, fun x hx => by cases hx⟩
    · rw [hk] at h
      cases h
      clear hmax
      have : ∃ l : List α, LeLL es (l.map c) ∧ l.length ≤ V.bulkss es ∧ (l.map wt).sum ≤ m * V.bulkss es ∧ ∀ x ∈ l, G x (V.bulkss es) := by
        induction es with
        | nil => exact ⟨[], .nil, Nat.zero_le _, Nat.zero_le _, fun x hx => by cases hx⟩
        | cons y es ih =>
          obtain ⟨x, h1, h2, h3⟩ := inv (hes y List.mem_cons_self)
          obtain ⟨l, g1, g2, g3, g4⟩ := ih fun z hz => hes z (List.mem_cons_of_mem _ hz)
          have hp := bulks_pos y
          rw [LeL_len h1] at hp
          have := pos x
          refine ⟨x :: l, .cons h1 g1, ?_, ?_, ?_⟩
          · simp only [List.length_cons, V.bulkss]; omega
          · simp only [List.map_cons, List.sum_cons, V.bulkss, Nat.mul_add]; omega
          · intro z hz
            rcases List.mem_cons.1 hz with rfl | hz
            · exact mono _ _ _ (by simp only [V.bulkss]; omega) h2
            · exact mono _ _ _ (by simp only [V.bulkss]; omega) (g4 z hz)
      obtain ⟨l, g1, g2, g3, g4⟩ := this
      have hb : V.bulk (.list none k es) = V.bulkss es + 1 := by simp [V.bulk]
      refine ⟨l, Le.lists g1, by omega, ?_, fun x hx => mono _ _ _ (by omega) (g4 x hx)⟩
      rw [hb, Nat.mul_add]; omega

theorem inv_int {d : Nat} {v : List V} (h : TV Try.prog d 3 v) : ∃ n, v = [vint n] ∧ inR n := by
  cases d with
  | zero => exact h.elim
  | succ d =>
    simp only [TV, Ty.un3] at h
    obtain ⟨n, rfl, hw⟩ := h
    refine ⟨n, rfl, ?_⟩
    simp only [Lit.wf, Bool.and_eq_true, decide_eq_true_eq] at hw
    have h1 : IntKind.i64.min = -9223372036854775808 := by decide
    have h2 : IntKind.i64.max = 9223372036854775807 := by decide
    unfold inR; omega
theorem inv_str {d : Nat} {v : List V} (h : TV Try.prog d 9 v) : ∃ s : Str, v = [vstr s] ∧ s.size ≤ maxLen := by
  cases d with
  | zero => exact h.elim
  | succ d =>
    simp only [TV, Ty.un9] at h
    exact h
theorem inv_fid {d : Nat} {vs : List V} (h : TV Try.prog d 53 vs) : ∃ i : FID, vs = cFID i := by
  cases d with
  | zero => exact h.elim
  | succ d =>
    simp only [TV, Try.underlying53, TVF] at h
    obtain ⟨x, y, rfl, hx, y1, y2, rfl, hy, rfl⟩ := h
    obtain ⟨s, rfl, _⟩ := inv_str hx
    obtain ⟨n, rfl, _⟩ := inv_int hy
    exact ⟨⟨s, n⟩, rfl⟩
theorem encV_size (v : Val) : (encV v).length = 24 + v.s.size := by
  simp only [encV, List.length_append, bytes8_len, strB_len]
theorem inv_val {d : Nat} {vs : List V} (h : TV Try.prog d 109 vs) : ∃ v : Val, LeL vs (cVal v) ∧ okV v ∧ (encV v).length ≤ 8 * V.bulks vs := by
  cases d with
  | zero => exact h.elim
  | succ d =>
    simp only [TV, Try.underlying109, TVF] at h
    obtain ⟨x, y, rfl, hx, y1, y2, rfl, hy, z1, z2, rfl, hz, rfl⟩ := h
    obtain ⟨k, rfl, hk⟩ := inv_int hx
    obtain ⟨n, rfl, hn⟩ := inv_int hy
    obtain ⟨s, rfl, hs⟩ := inv_str hz
    refine ⟨⟨k, n, s⟩, LeL.refl _, ⟨hk, hn, ?_⟩, ?_⟩
    · have : maxLen < 9223372036854775808 := by decide
      simp only; omega
    · rw [encV_size]
      simp only [List.cons_append, List.nil_append, V.bulks, V.bulk]
      omega
def gR (r : Rw) (n : Nat) : Prop := okR r ∧ r.fields.length ≤ n ∧ (encL r.fields).length ≤ 8 * n
theorem gR.mono {r : Rw} {n n' : Nat} (h : n ≤ n') (hg : gR r n) : gR r n' := ⟨hg.1, by have := hg.2.1; omega, by have := hg.2.2; omega⟩
theorem encL_sum (l : List Val) : (encL l).length = (l.map fun v => (encV v).length).sum := by
  induction l with
  | nil => rfl
  | cons v l ih => simp only [encL, List.flatMap_cons, List.length_append, List.map_cons, List.sum_cons] at ih ⊢; omega
theorem inv_row {d : Nat} {vs : List V} (h : TV Try.prog d 56 vs) : ∃ r : Rw, LeL vs (cRow r) ∧ gR r (V.bulks vs) := by
  cases d with
  | zero => exact h.elim
  | succ d =>
    simp only [TV, Try.underlying56, TVF] at h
    obtain ⟨x1, y1, rfl, h1, x2, y2, rfl, h2, x3, y3, rfl, h3, x4, y4, rfl, h4, x5, y5, rfl, h5, x6, y6, rfl, h6, x7, y7, rfl, h7, rfl⟩ := h
    obtain ⟨i, rfl⟩ := inv_fid h1
    obtain ⟨t, rfl, _⟩ := inv_str h2
    obtain ⟨k, rfl, _⟩ := inv_str h3
    obtain ⟨e, rfl, _⟩ := inv_int h4
    obtain ⟨no, rfl, _⟩ := inv_int h6
    obtain ⟨tk, rfl, _⟩ := inv_int h7
    have h5l : ∃ v, x5 = [v] := by
      cases d with
      | zero => exact h5.elim
      | succ d =>
        simp only [TV, Try.underlying54] at h5
        rcases h5 with h5 | ⟨es, h5, _⟩
        · exact ⟨_, h5⟩
        · exact ⟨_, h5⟩
    obtain ⟨v, rfl⟩ := h5l
    obtain ⟨l, g1, g2, g3, g4⟩ := inv_slice Try.underlying54 (by kernel_rfl : Try.prog.cellsOf 109 = 3) cVal (fun x _ => okV x) (fun x => (encV x).length) 8 (fun h => by obtain ⟨x, a, b, c⟩ := inv_val h; exact ⟨x, a, b, c⟩) (fun _ _ _ _ h => h) (fun _ => Nat.succ_pos _) h5
    refine ⟨⟨i, t, k, e, l, no, tk⟩, ?_, g4, ?_, ?_⟩
    · exact .cons (Le.refl _) (.cons (Le.refl _) (.cons (Le.refl _) (.cons (Le.refl _) (.cons (Le.refl _) (.cons g1 (LeL.refl _))))))
    · simp only [List.cons_append, List.nil_append, List.append_nil, V.bulks]; omega
    · rw [encL_sum]
      simp only [List.cons_append, List.nil_append, List.append_nil, V.bulks]; omega
def gD (x : Dlt) (n : Nat) : Prop := inR x.n ∧ gR x.row n
theorem gD.mono {x : Dlt} {n n' : Nat} (h : n ≤ n') (hg : gD x n) : gD x n' := ⟨hg.1, hg.2.mono h⟩
theorem LeL_append : ∀ {l l' m m' : List V}, LeL l l' → LeL m m' → LeL (l ++ m) (l' ++ m')
  | _, _, _, _, .nil, h => h
  | _, _, _, _, .cons h r, h' => .cons h (LeL_append r h')
theorem inv_dlt {d : Nat} {vs : List V} (h : TV Try.prog d 61 vs) : ∃ x : Dlt, LeL vs (cDlt x) ∧ gD x (V.bulks vs) := by
  cases d with
  | zero => exact h.elim
  | succ d =>
    simp only [TV, Try.underlying61, TVF] at h
    obtain ⟨x1, y1, rfl, h1, x2, y2, rfl, h2, x3, y3, rfl, h3, rfl⟩ := h
    obtain ⟨r, hr, hg⟩ := inv_row h1
    obtain ⟨t, rfl, _⟩ := inv_int h2
    obtain ⟨n, rfl, hn⟩ := inv_int h3
    refine ⟨⟨r, t, n⟩, LeL_append hr (LeL.refl _), hn, hg.mono ?_⟩
    rw [bulks_append]; omega
theorem inv_dlts {d : Nat} {v : V} (h : TV Try.prog d 41 [v]) : ∃ l : List Dlt, Le v (vDlts l) ∧ l.length ≤ V.bulk v ∧ ∀ x ∈ l, gD x (V.bulk v) := by
  obtain ⟨l, g1, g2, _, g4⟩ := inv_slice Try.underlying41 (by kernel_rfl : Try.prog.cellsOf 61 = 10) cDlt gD (fun _ => 0) 0 (fun h => by obtain ⟨x, a, b⟩ := inv_dlt h; exact ⟨x, a, b, Nat.zero_le _⟩) (fun _ _ _ h hg => hg.mono h) (fun _ => Nat.succ_pos _) h
  exact ⟨l, g1, g2, g4⟩
def gG (g : Grp) (n : Nat) : Prop := ∀ x ∈ g.ds, gD x n
theorem one_slice {d : Nat} {t e : TypeId} {vs : List V} (hu : Try.prog.underlying t = some (.slice e)) (h : TV Try.prog d t vs) : ∃ v, vs = [v] := by
  cases d with
  | zero => exact h.elim
  | succ d =>
    simp only [TV, hu] at h
    rcases h with h | ⟨es, h, _⟩
    · exact ⟨_, h⟩
    · exact ⟨_, h⟩
theorem inv_grp {d : Nat} {vs : List V} (h : TV Try.prog d 65 vs) : ∃ g : Grp, LeL vs (cGrp g) ∧ gG g (V.bulks vs) ∧ g.ds.length ≤ 1 * V.bulks vs := by
  cases d with
  | zero => exact h.elim
  | succ d =>
    simp only [TV, Try.underlying65, TVF] at h
    obtain ⟨x1, y1, rfl, h1, x2, y2, rfl, h2, rfl⟩ := h
    obtain ⟨k, rfl, _⟩ := inv_str h1
    obtain ⟨v, rfl⟩ := one_slice Try.underlying41 h2
    obtain ⟨l, g1, g2, g3⟩ := inv_dlts h2
    refine ⟨⟨k, l⟩, .cons (Le.refl _) (.cons g1 .nil), fun x hx => (g3 x hx).mono ?_, ?_⟩
    · simp only [List.cons_append, List.nil_append, V.bulks]; omega
    · simp only [List.cons_append, List.nil_append, V.bulks]; omega
theorem allD_sum (l : List Grp) : (allD l).length = (l.map fun g => g.ds.length).sum := by
  induction l with
  | nil => rfl
  | cons g l ih => rw [allD_cons, List.length_append, List.map_cons, List.sum_cons, ih]
theorem inv_arr {d : Nat} {a : V} (h : TA Try.prog d 24 a) : ∃ A : Arr, Le a (vArr A) ∧ A.groups.length ≤ V.bulkA a ∧ (allD A.groups).length ≤ V.bulkA a ∧ ∀ x ∈ allD A.groups, gD x (V.bulkA a) := by
  unfold TA at h
  simp only [Ty.ag24] at h
  obtain ⟨vs, rfl, h⟩ := h
  cases d with
  | zero => exact h.elim
  | succ d =>
    simp only [TV, Try.underlying24, TVF] at h
    obtain ⟨x1, y1, rfl, h1, x2, y2, rfl, h2, rfl⟩ := h
    obtain ⟨s, rfl, _⟩ := inv_int h1
    obtain ⟨v, rfl⟩ := one_slice Try.underlying22 h2
    obtain ⟨l, g1, g2, g3, g4⟩ := inv_slice Try.underlying22 (by kernel_rfl : Try.prog.cellsOf 65 = 2) cGrp gG (fun g => g.ds.length) 1 inv_grp (fun _ _ _ h hg x hx => (hg x hx).mono h) (fun _ => Nat.succ_pos _) h2
    have hb : V.bulkA (.agg ([vint s] ++ ([v] ++ []))) = 1 + V.bulk v := by simp only [V.bulkA, List.cons_append, List.nil_append, V.bulks, V.bulk]; omega
    rw [hb]
    refine ⟨⟨s, l⟩, Le.agg (.cons (Le.refl _) (.cons g1 .nil)), by simp only; omega, by simp only; rw [allD_sum]; omega, fun x hx => ?_⟩
    obtain ⟨g, hg, hx⟩ := List.mem_flatMap.1 hx
    exact (g4 g hg x hx).mono (by omega)
theorem gD.fit {x : Dlt} {n : Nat} (h : gD x n) (hn : n ≤ 1048576) : inR x.n ∧ fitR x.row := by
  refine ⟨h.1, ?_, ?_, h.2.1⟩
  · have := h.2.2.1; unfold big; omega
  · have := h.2.2.2; omega
theorem in_arr {d : Nat} {a : V} (h : TA Try.prog d 24 a) (hb : V.bulkA a ≤ 1048576) : ∃ A : Arr, Le a (vArr A) ∧ fitA A := by
  obtain ⟨A, h1, h2, h3, h4⟩ := inv_arr h
  exact ⟨A, h1, by unfold big; omega, by unfold big; omega, fun x hx => (h4 x hx).fit hb⟩
theorem in_dlts {d : Nat} {a : V} (h : TA Try.prog d 41 a) (hb : V.bulkA a ≤ 1048576) : ∃ l : List Dlt, Le a (vDlts l) ∧ fitDs l := by
  unfold TA at h
  simp only [Ty.ag41] at h
  obtain ⟨l, h1, h2, h3⟩ := inv_dlts h
  have hbb : V.bulk a ≤ V.bulkA a := by
    cases a with
    | agg vs => cases d with
      | zero => exact h.elim
      | succ d =>
        simp only [TV, Try.underlying41] at h
        rcases h with h | ⟨es, h, _⟩ <;> cases h
    | _ => exact Nat.le_refl _
  exact ⟨l, h1, by unfold big; omega, fun x hx => (h3 x hx).fit (by omega)⟩
theorem in_ids {d : Nat} {a : V} (h : TA Try.prog d 47 a) (hb : V.bulkA a ≤ 1048576) : ∃ l : List FID, Le a (vFIDs l) ∧ l.length ≤ 1048576 := by
  unfold TA at h
  simp only [Ty.ag47] at h
  have hbb : V.bulk a ≤ V.bulkA a := by
    cases a with
    | agg vs => cases d with
      | zero => exact h.elim
      | succ d =>
        simp only [TV, Try.underlying47] at h
        rcases h with h | ⟨es, h, _⟩ <;> cases h
    | _ => exact Nat.le_refl _
  obtain ⟨l, g1, g2, _, _⟩ := inv_slice Try.underlying47 (by kernel_rfl : Try.prog.cellsOf 53 = 2) cFID (fun _ _ => True) (fun _ => 0) 0 (fun h => by obtain ⟨x, rfl⟩ := inv_fid h; exact ⟨x, LeL.refl _, trivial, Nat.zero_le _⟩) (fun _ _ _ _ h => h) (fun _ => Nat.succ_pos _) h
  exact ⟨l, g1, by omega⟩
theorem in_int {d : Nat} {a : V} (h : TA Try.prog d 3 a) : ∃ n, a = vint n := by
  unfold TA at h
  simp only [Ty.ag3] at h
  obtain ⟨n, e, _⟩ := inv_int h
  cases e; exact ⟨n, rfl⟩
theorem in_str {d : Nat} {a : V} (h : TA Try.prog d 9 a) : ∃ s, a = vstr s := by
  unfold TA at h
  simp only [Ty.ag9] at h
  obtain ⟨n, e, _⟩ := inv_str h
  cases e; exact ⟨n, rfl⟩
theorem in_ival {d : Nat} {a : V} (h : TA Try.prog d 26 a) : ∃ lo hi, a = .agg [vint lo, vint hi] := by
  unfold TA at h
  simp only [Ty.ag26] at h
  obtain ⟨vs, rfl, h⟩ := h
  cases d with
  | zero => exact h.elim
  | succ d =>
    simp only [TV, Try.underlying26, TVF] at h
    obtain ⟨x, y, rfl, hx, y1, y2, rfl, hy, rfl⟩ := h
    obtain ⟨k, rfl, _⟩ := inv_int hx
    obtain ⟨s, rfl, _⟩ := inv_int hy
    exact ⟨k, s, rfl⟩
theorem bulkAs_mem : ∀ {zs : List V} {a : V}, a ∈ zs → V.bulkA a ≤ V.bulkAs zs
  | b :: r, a, h => by
    rcases List.mem_cons.1 h with rfl | h
    · simp only [V.bulkAs]; omega
    · have := bulkAs_mem h; simp only [V.bulkAs]; omega

/-! ### The bulk that the rows speak of -/
mutual
theorem bulk_eq {H : Type} : ∀ d : DataW H, Rows.uptoBulk d = bulkD d
  | .lit (.string b) => by simp only [Rows.uptoBulk, bulkD]
  | .lit (.int _ _) => by simp only [Rows.uptoBulk, bulkD]
  | .lit (.bool _) => by simp only [Rows.uptoBulk, bulkD]
  | .lit (.float _ _) => by simp only [Rows.uptoBulk, bulkD]
  | .lit .nil => by simp only [Rows.uptoBulk, bulkD]
  | .nil => by simp only [Rows.uptoBulk, bulkD]
  | .ptr d => by simp only [Rows.uptoBulk, bulkD, bulk_eq d]
  | .slice es sp => by simp only [Rows.uptoBulk, bulkD, bulks_eq es, bulks_eq sp]
  | .agg ps => by simp only [Rows.uptoBulk, bulkD, bulks_eq ps]
  | .iface _ d => by simp only [Rows.uptoBulk, bulkD, bulk_eq d]
  | .map es => by simp only [Rows.uptoBulk, bulkD, bulke_eq es]
  | .held _ => by simp only [Rows.uptoBulk, bulkD]
theorem bulks_eq {H : Type} : ∀ ds : List (DataW H), Rows.uptoBulkAll ds = bulkDs ds
  | [] => by simp only [Rows.uptoBulkAll, bulkDs]
  | d :: r => by simp only [Rows.uptoBulkAll, bulkDs, bulk_eq d, bulks_eq r]
theorem bulke_eq {H : Type} : ∀ es : List (Lit × DataW H), Rows.uptoBulkEntries es = bulkDe es
  | [] => by simp only [Rows.uptoBulkEntries, bulkDe]
  | x :: r => by simp only [Rows.uptoBulkEntries, bulkDe, bulkx_eq x, bulke_eq r]
theorem bulkx_eq {H : Type} : ∀ x : Lit × DataW H, Rows.uptoBulkEntry x = bulkDx x
  | (.string b, d) => by simp only [Rows.uptoBulkEntry, bulkDx, bulk_eq d]
  | (.int _ _, d) => by simp only [Rows.uptoBulkEntry, bulkDx, bulk_eq d]
  | (.bool _, d) => by simp only [Rows.uptoBulkEntry, bulkDx, bulk_eq d]
  | (.float _ _, d) => by simp only [Rows.uptoBulkEntry, bulkDx, bulk_eq d]
  | (.nil, d) => by simp only [Rows.uptoBulkEntry, bulkDx, bulk_eq d]
end
end Go.Proofs.Ytopfanlkbepemaa

/- Arrangements: ArrangeMatchesReads. -/
set_option linter.unusedSimpArgs false
set_option maxRecDepth 100000
namespace Go.Proofs.Ytopfanlkbepemaa
open Go.VL Go.Ar Go.Proofs.Ytopfanlkbepemaa

theorem ids_len (ids : List FID) (h : ids.length ≤ 1048576) : ids.length ≤ 9223372036854775807 := by omega
theorem purA_fit {a : Arr} (ha : fitA a) (ids : List FID) : fitA (purA a ids) := fit_of (ha.2.purge ids)
theorem rowsA_fit {a : Arr} (ha : fitA a) (k : Str) (lo hi t : Int) : (rowsA a k lo hi t).1.length ≤ big ∧ ∀ r ∈ (rowsA a k lo hi t).1, okF r := by
  unfold rowsA
  split
  · exact ⟨Nat.zero_le _, fun r hr => by cases hr⟩
  · exact rowsK_fit ha k lo hi t
theorem keysA_len {a : Arr} (ha : fitA a) (t : Int) : (keysA a t).1.length ≤ big := by
  unfold keysA
  split
  · exact Nat.zero_le _
  · exact keysP_len ha.1 t
set_option linter.defProp false in
def tbAKb0 := (And.intro (And.intro (And.intro (And.intro (And.intro (And.intro (And.intro Ty.sz3 Ty.by3) (And.intro Ty.ag3 Ty.zr3)) (And.intro (And.intro Ty.un3 Ty.sz4) (And.intro Ty.by4 Ty.ag4))) (And.intro (And.intro (And.intro Ty.zr4 Ty.un4) (And.intro Ty.sz9 Ty.by9)) (And.intro (And.intro Ty.ag9 Ty.zr9) (And.intro Ty.un9 (And.intro Ty.sz22 Ty.by22))))) (And.intro (And.intro (And.intro (And.intro Ty.ag22 Ty.zr22) (And.intro Ty.un22 Ty.sz24)) (And.intro (And.intro Ty.by24 Ty.ag24) (And.intro Ty.zr24 (And.intro Ty.fl24_0 Ty.pl24_0)))) (And.intro (And.intro (And.intro Ty.fl24_1 Ty.pl24_1) (And.intro Ty.sz26 Ty.by26)) (And.intro (And.intro Ty.ag26 Ty.zr26) (And.intro Ty.fl26_0 (And.intro Ty.pl26_0 Ty.fl26_1)))))) (And.intro (And.intro (And.intro (And.intro (And.intro Ty.pl26_1 Ty.sz29) (And.intro Ty.by29 Ty.ag29)) (And.intro (And.intro Ty.zr29 Ty.un29) (And.intro Ty.sz32 Ty.by32))) (And.intro (And.intro (And.intro Ty.ag32 Ty.zr32) (And.intro Ty.un32 Ty.sz33)) (And.intro (And.intro Ty.by33 Ty.ag33) (And.intro Ty.sz35 (And.intro Ty.by35 Ty.ag35))))) (And.intro (And.intro (And.intro (And.intro Ty.zr35 Ty.un35) (And.intro Ty.sz36 Ty.by36)) (And.intro (And.intro Ty.ag36 Ty.sz41) (And.intro Ty.by41 (And.intro Ty.ag41 Ty.zr41)))) (And.intro (And.intro (And.intro Ty.un41 Ty.sz47) (And.intro Ty.by47 Ty.ag47)) (And.intro (And.intro Ty.zr47 Ty.un47) (And.intro Ty.sz53 (And.intro Ty.by53 Ty.ag53))))))) (And.intro (And.intro (And.intro (And.intro (And.intro (And.intro Ty.zr53 Ty.fl53_0) (And.intro Ty.pl53_0 Ty.fl53_1)) (And.intro (And.intro Ty.pl53_1 Ty.sz54) (And.intro Ty.by54 Ty.ag54))) (And.intro (And.intro (And.intro Ty.zr54 Ty.un54) (And.intro Ty.sz56 Ty.by56)) (And.intro (And.intro Ty.ag56 Ty.zr56) (And.intro Ty.fl56_0 (And.intro Ty.pl56_0 Ty.fl56_1))))) (And.intro (And.intro (And.intro (And.intro Ty.pl56_1 Ty.fl56_2) (And.intro Ty.pl56_2 Ty.fl56_3)) (And.intro (And.intro Ty.pl56_3 Ty.fl56_4) (And.intro Ty.pl56_4 (And.intro Ty.fl56_5 Ty.pl56_5)))) (And.intro (And.intro (And.intro Ty.fl56_6 Ty.pl56_6) (And.intro Ty.sz61 Ty.by61)) (And.intro (And.intro Ty.ag61 Ty.zr61) (And.intro Ty.fl61_0 (And.intro Ty.pl61_0 Ty.fl61_1)))))) (And.intro (And.intro (And.intro (And.intro (And.intro Ty.pl61_1 Ty.fl61_2) (And.intro Ty.pl61_2 Ty.sz65)) (And.intro (And.intro Ty.by65 Ty.ag65) (And.intro Ty.zr65 Ty.fl65_0))) (And.intro (And.intro (And.intro Ty.pl65_0 Ty.fl65_1) (And.intro Ty.pl65_1 Ty.sz109)) (And.intro (And.intro Ty.by109 Ty.ag109) (And.intro Ty.zr109 (And.intro Ty.fl109_0 Ty.pl109_0))))) (And.intro (And.intro (And.intro (And.intro Ty.fl109_1 Ty.pl109_1) (And.intro Ty.fl109_2 Ty.pl109_2)) (And.intro (And.intro Ty.eq26 Ty.eq53) (And.intro Ty.eq109 (And.intro Ty.cb10 Ty.cb11)))) (And.intro (And.intro (And.intro Ty.cb13 Ty.cb14) (And.intro Ty.cb15 Ty.cb16)) (And.intro (And.intro Ty.cb18 Ty.cb20) (And.intro Ty.cb21 (And.intro Ty.cb22 Ty.cb23))))))))
theorem reads_ok (a : Arr) (key : Str) (lo hi tick : Int) (ids : List FID) (ha : fitA a) (hids : ids.length ≤ 1048576) : OkP Try.prog 6 [vArr a, vstr key, .agg [vint lo, vint hi], vint tick, vFIDs ids] (vbool true) := by
  have hi0 := ids_len ids hids
  refine Ok.of_ex Ty.mixed Try.func6 rfl (by simp [Try.ntmps6]) (by kernel_rfl) fun F w0 I0 => ?_
  simp only [↓ruleA0, ↓ruleA1, ↓ruleA2, ruleB0, ruleB1, ruleB2, ruleB3, ruleL, ↓retK, ncall, Todo_eq, packV, eqTB, litB, litV, fitL, fit, veqL, veq, sbin, sun, nilB, cellsV, oneB, okC, vals, fillV, partsE, Int.reduceLE, Int.reduceLT, Int.reduceToNat, Nat.reduceAdd, Nat.reduceEqDiff, Nat.reduceLT, Nat.reduceLeDiff, Nat.reduceMul, Nat.reduceSub, reduceCtorEq, tbAKb0, Try.results6]
  refine fun b5 h5 => ?_; replace h5 := newb h5; try simp only [Nb] at h5
  simp only [↓ruleA0, ↓ruleA1, ↓ruleA2, ruleB0, ruleB1, ruleB2, ruleB3, ruleL, ↓retK, ncall, Todo_eq, packV, eqTB, litB, litV, fitL, fit, veqL, veq, sbin, sun, nilB, cellsV, oneB, okC, vals, fillV, partsE, Int.reduceLE, Int.reduceLT, Int.reduceToNat, Nat.reduceAdd, Nat.reduceEqDiff, Nat.reduceLT, Nat.reduceLeDiff, Nat.reduceMul, Nat.reduceSub, reduceCtorEq, tbAKb0, Try.results6]
  refine fun b8 h8 => ?_; replace h8 := newb h8; try simp only [Nb] at h8
  simp only [↓ruleA0, ↓ruleA1, ↓ruleA2, ruleB0, ruleB1, ruleB2, ruleB3, ruleL, ↓retK, ncall, Todo_eq, packV, eqTB, litB, litV, fitL, fit, veqL, veq, sbin, sun, nilB, cellsV, oneB, okC, vals, fillV, partsE, Int.reduceLE, Int.reduceLT, Int.reduceToNat, Nat.reduceAdd, Nat.reduceEqDiff, Nat.reduceLT, Nat.reduceLeDiff, Nat.reduceMul, Nat.reduceSub, reduceCtorEq, tbAKb0, Try.results6, h5, h8]
  refine OkF_of _ example_ok ?_
  simp only [↓ruleA0, ↓ruleA1, ↓ruleA2, ruleB0, ruleB1, ruleB2, ruleB3, ruleL, ↓retK, ncall, Todo_eq, packV, eqTB, litB, litV, fitL, fit, veqL, veq, sbin, sun, nilB, cellsV, oneB, okC, vals, fillV, partsE, Int.reduceLE, Int.reduceLT, Int.reduceToNat, Nat.reduceAdd, Nat.reduceEqDiff, Nat.reduceLT, Nat.reduceLeDiff, Nat.reduceMul, Nat.reduceSub, reduceCtorEq, tbAKb0, Try.results6, h5, h8]
  refine OkF_le (.cons (Le.refl _) (.cons (Le.nil 10) .nil)) _ (right_ok a [] ha (Nat.zero_le _)) ?_
  cases hr : rightM a []
  · simp only [↓ruleA0, ↓ruleA1, ↓ruleA2, ruleB0, ruleB1, ruleB2, ruleB3, ruleL, ↓retK, ncall, Todo_eq, packV, eqTB, litB, litV, fitL, fit, veqL, veq, sbin, sun, nilB, cellsV, oneB, okC, vals, fillV, partsE, Int.reduceLE, Int.reduceLT, Int.reduceToNat, Nat.reduceAdd, Nat.reduceEqDiff, Nat.reduceLT, Nat.reduceLeDiff, Nat.reduceMul, Nat.reduceSub, reduceCtorEq, tbAKb0, Try.results6, h5, h8]
    exact ret_done rfl
  have hv := right_valid ha hr
  by_cases h50 : (50 : Int) < (ids.length : Int)
  · simp only [↓ruleA0, ↓ruleA1, ↓ruleA2, ruleB0, ruleB1, ruleB2, ruleB3, ruleL, ↓retK, ncall, Todo_eq, packV, eqTB, litB, litV, fitL, fit, veqL, veq, sbin, sun, nilB, cellsV, oneB, okC, vals, fillV, partsE, Int.reduceLE, Int.reduceLT, Int.reduceToNat, Nat.reduceAdd, Nat.reduceEqDiff, Nat.reduceLT, Nat.reduceLeDiff, Nat.reduceMul, Nat.reduceSub, reduceCtorEq, tbAKb0, Try.results6, h5, h8, List.length_map, h50]
    exact ret_done rfl
  simp only [↓ruleA0, ↓ruleA1, ↓ruleA2, ruleB0, ruleB1, ruleB2, ruleB3, ruleL, ↓retK, ncall, Todo_eq, packV, eqTB, litB, litV, fitL, fit, veqL, veq, sbin, sun, nilB, cellsV, oneB, okC, vals, fillV, partsE, Int.reduceLE, Int.reduceLT, Int.reduceToNat, Nat.reduceAdd, Nat.reduceEqDiff, Nat.reduceLT, Nat.reduceLeDiff, Nat.reduceMul, Nat.reduceSub, reduceCtorEq, tbAKb0, Try.results6, h5, h8, List.length_map, h50]
  have hrf := rowsA_fit ha key lo hi tick
  have hkf := keysA_len ha tick
  have hR1 := rowsP_ok a key lo hi tick ha.fitG hv.gs
  have hR2 := rows22_ok a key lo hi tick ha hv.gs
  have hK1 := keysP2_ok a tick ha.fitG
  have hK2 := keys22_ok a tick ha
  generalize rowsA a key lo hi tick = R at hrf hR1 hR2
  generalize keysA a tick = K at hkf hK1 hK2
  obtain ⟨R, e⟩ := R
  obtain ⟨K, f⟩ := K
  refine OkF_of _ hR1 ?_
  simp only [↓ruleA0, ↓ruleA1, ↓ruleA2, ruleB0, ruleB1, ruleB2, ruleB3, ruleL, ↓retK, ncall, Todo_eq, packV, eqTB, litB, litV, fitL, fit, veqL, veq, sbin, sun, nilB, cellsV, oneB, okC, vals, fillV, partsE, Int.reduceLE, Int.reduceLT, Int.reduceToNat, Nat.reduceAdd, Nat.reduceEqDiff, Nat.reduceLT, Nat.reduceLeDiff, Nat.reduceMul, Nat.reduceSub, reduceCtorEq, tbAKb0, Try.results6, h5, h8]
  refine OkF_of _ hR2 ?_
  simp only [↓ruleA0, ↓ruleA1, ↓ruleA2, ruleB0, ruleB1, ruleB2, ruleB3, ruleL, ↓retK, ncall, Todo_eq, packV, eqTB, litB, litV, fitL, fit, veqL, veq, sbin, sun, nilB, cellsV, oneB, okC, vals, fillV, partsE, Int.reduceLE, Int.reduceLT, Int.reduceToNat, Nat.reduceAdd, Nat.reduceEqDiff, Nat.reduceLT, Nat.reduceLeDiff, Nat.reduceMul, Nat.reduceSub, reduceCtorEq, tbAKb0, Try.results6, h5, h8]
  refine OkF_of _ hK1 ?_
  simp only [↓ruleA0, ↓ruleA1, ↓ruleA2, ruleB0, ruleB1, ruleB2, ruleB3, ruleL, ↓retK, ncall, Todo_eq, packV, eqTB, litB, litV, fitL, fit, veqL, veq, sbin, sun, nilB, cellsV, oneB, okC, vals, fillV, partsE, Int.reduceLE, Int.reduceLT, Int.reduceToNat, Nat.reduceAdd, Nat.reduceEqDiff, Nat.reduceLT, Nat.reduceLeDiff, Nat.reduceMul, Nat.reduceSub, reduceCtorEq, tbAKb0, Try.results6, h5, h8]
  refine OkF_of _ hK2 ?_
  simp only [↓ruleA0, ↓ruleA1, ↓ruleA2, ruleB0, ruleB1, ruleB2, ruleB3, ruleL, ↓retK, ncall, Todo_eq, packV, eqTB, litB, litV, fitL, fit, veqL, veq, sbin, sun, nilB, cellsV, oneB, okC, vals, fillV, partsE, Int.reduceLE, Int.reduceLT, Int.reduceToNat, Nat.reduceAdd, Nat.reduceEqDiff, Nat.reduceLT, Nat.reduceLeDiff, Nat.reduceMul, Nat.reduceSub, reduceCtorEq, tbAKb0, Try.results6, h5, h8]
  refine CallV_of _ (sameRows_self R hrf.1 hrf.2).v ?_
  simp only [↓ruleA0, ↓ruleA1, ↓ruleA2, ruleB0, ruleB1, ruleB2, ruleB3, ruleL, ↓retK, ncall, Todo_eq, packV, eqTB, litB, litV, fitL, fit, veqL, veq, sbin, sun, nilB, cellsV, oneB, okC, vals, fillV, partsE, Int.reduceLE, Int.reduceLT, Int.reduceToNat, Nat.reduceAdd, Nat.reduceEqDiff, Nat.reduceLT, Nat.reduceLeDiff, Nat.reduceMul, Nat.reduceSub, reduceCtorEq, tbAKb0, Try.results6, h5, h8]
  refine CallV_of _ (sameKeys_self K hkf).v ?_
  simp only [↓ruleA0, ↓ruleA1, ↓ruleA2, ruleB0, ruleB1, ruleB2, ruleB3, ruleL, ↓retK, ncall, Todo_eq, packV, eqTB, litB, litV, fitL, fit, veqL, veq, sbin, sun, nilB, cellsV, oneB, okC, vals, fillV, partsE, Int.reduceLE, Int.reduceLT, Int.reduceToNat, Nat.reduceAdd, Nat.reduceEqDiff, Nat.reduceLT, Nat.reduceLeDiff, Nat.reduceMul, Nat.reduceSub, reduceCtorEq, tbAKb0, Try.results6, h5, h8]
  refine CallV_of _ (purgeP_ok a ids ha hi0).v ?_
  simp only [↓ruleA0, ↓ruleA1, ↓ruleA2, ruleB0, ruleB1, ruleB2, ruleB3, ruleL, ↓retK, ncall, Todo_eq, packV, eqTB, litB, litV, fitL, fit, veqL, veq, sbin, sun, nilB, cellsV, oneB, okC, vals, fillV, partsE, Int.reduceLE, Int.reduceLT, Int.reduceToNat, Nat.reduceAdd, Nat.reduceEqDiff, Nat.reduceLT, Nat.reduceLeDiff, Nat.reduceMul, Nat.reduceSub, reduceCtorEq, tbAKb0, Try.results6, h5, h8]
  refine CallV_of _ (purge22_ok a ids ha hi0).v ?_
  simp only [↓ruleA0, ↓ruleA1, ↓ruleA2, ruleB0, ruleB1, ruleB2, ruleB3, ruleL, ↓retK, ncall, Todo_eq, packV, eqTB, litB, litV, fitL, fit, veqL, veq, sbin, sun, nilB, cellsV, oneB, okC, vals, fillV, partsE, Int.reduceLE, Int.reduceLT, Int.reduceToNat, Nat.reduceAdd, Nat.reduceEqDiff, Nat.reduceLT, Nat.reduceLeDiff, Nat.reduceMul, Nat.reduceSub, reduceCtorEq, tbAKb0, Try.results6, h5, h8]
  refine CallV_of _ (same_self _ (purA_fit ha ids)).v ?_
  simp only [↓ruleA0, ↓ruleA1, ↓ruleA2, ruleB0, ruleB1, ruleB2, ruleB3, ruleL, ↓retK, ncall, Todo_eq, packV, eqTB, litB, litV, fitL, fit, veqL, veq, sbin, sun, nilB, cellsV, oneB, okC, vals, fillV, partsE, Int.reduceLE, Int.reduceLT, Int.reduceToNat, Nat.reduceAdd, Nat.reduceEqDiff, Nat.reduceLT, Nat.reduceLeDiff, Nat.reduceMul, Nat.reduceSub, reduceCtorEq, tbAKb0, Try.results6, h5, h8]
  exact ret_done rfl
end Go.Proofs.Ytopfanlkbepemaa

/- Arrangements: ArrangeCommutes. -/
set_option linter.unusedSimpArgs false
set_option maxRecDepth 100000
namespace Go.Proofs.Ytopfanlkbepemaa
open Go.VL Go.Ar Go.Proofs.Ytopfanlkbepemaa

theorem ins_zero {a b : Arr} {d : List Dlt} (h : insA a d = (b, 0)) : lateB a d = false ∧ b = ofM a.since (allD a.groups ++ d) := by
  unfold insA at h
  split at h
  · simp only [Prod.mk.injEq] at h; exact absurd h.2 (by decide)
  · rename_i hl
    simp only [Prod.mk.injEq] at h
    exact ⟨by simpa using hl, h.1.symm⟩
theorem ins_in {a : Arr} {d : List Dlt} (h : lateB a d = false) : insA a d = (ofM a.since (allD a.groups ++ d), 0) := by unfold insA; rw [if_neg (by rw [h]; decide)]
theorem late_not {a : Arr} {d : List Dlt} (h : lateB a d = false) : ∀ x ∈ d, a.since ≤ x.tick := fun x hx => by
  unfold lateB at h
  rw [List.any_eq_false] at h
  have := h x hx
  simp only [decide_eq_true_eq] at this
  omega
theorem not_late {a : Arr} {d : List Dlt} (h : ∀ x ∈ d, a.since ≤ x.tick) : lateB a d = false := by
  unfold lateB
  rw [List.any_eq_false]
  intro x hx
  have := h x hx
  simp only [decide_eq_true_eq]
  omega
theorem adv_in {a : Arr} {s : Int} (h1 : s ≤ maxT) (h2 : a.since ≤ s) : advA a s = (ofM s (advD s (allD a.groups)), 0) := by
  unfold advA
  rw [if_neg (by omega), if_neg (by omega)]
theorem ofM_len (s : Int) (d : List Dlt) : (allD (ofM s d).groups).length ≤ d.length := grpsM_len d
theorem fit_append {a : Arr} {d : List Dlt} (ha : fitA a) (hd : fitDs d) (h : (allD a.groups).length + d.length ≤ 200) : fitDs (allD a.groups ++ d) :=
  ⟨by rw [List.length_append]; unfold big; omega, fun x hx => (List.mem_append.1 hx).elim (ha.2.2 x) (hd.2 x)⟩
theorem commute1 {a : Arr} {d : List Dlt} {s : Int} (ha : fitA a) (hd : fitDs d) (hl : ∀ x ∈ d, s ≤ x.tick) :
    ofM s (allD (ofM s (advD s (allD a.groups))).groups ++ d) = ofM s (advD s (allD (ofM a.since (allD a.groups ++ d)).groups)) := by
  have n1 := okN_adv ha.2.okN s
  have n2 := okN_append ha.2.okN hd.okN
  refine ofM_eq (okN_append (grpsM_ok n1).okN hd.okN) (okN_adv (grpsM_ok n2).okN s) ?_
  refine ((grpsM_coef n1).append (Eqv.refl d)).trans ?_
  refine Eqv.trans ?_ ((grpsM_coef n2).adv s).symm
  rw [adv_append, adv_late hl]
  exact Eqv.refl _
theorem commute2 {a : Arr} {s h : Int} (ha : fitA a) (hh : h ≤ s) : ofM s (advD s (allD (ofM h (advD h (allD a.groups))).groups)) = ofM s (advD s (allD a.groups)) := by
  have n1 := okN_adv ha.2.okN h
  refine ofM_eq (okN_adv (grpsM_ok n1).okN s) (okN_adv ha.2.okN s) ?_
  refine ((grpsM_coef n1).adv s).trans ?_
  rw [adv_adv _ hh]
  exact Eqv.refl _
set_option linter.defProp false in
def tbAKc0 := (And.intro (And.intro (And.intro (And.intro (And.intro (And.intro Ty.sz3 (And.intro Ty.by3 Ty.ag3)) (And.intro Ty.zr3 (And.intro Ty.un3 Ty.sz4))) (And.intro (And.intro Ty.by4 (And.intro Ty.ag4 Ty.zr4)) (And.intro (And.intro Ty.un4 Ty.sz9) (And.intro Ty.by9 Ty.ag9)))) (And.intro (And.intro (And.intro Ty.zr9 (And.intro Ty.un9 Ty.sz22)) (And.intro Ty.by22 (And.intro Ty.ag22 Ty.zr22))) (And.intro (And.intro Ty.un22 (And.intro Ty.sz24 Ty.by24)) (And.intro (And.intro Ty.ag24 Ty.zr24) (And.intro Ty.fl24_0 Ty.pl24_0))))) (And.intro (And.intro (And.intro (And.intro Ty.fl24_1 (And.intro Ty.pl24_1 Ty.sz29)) (And.intro Ty.by29 (And.intro Ty.ag29 Ty.zr29))) (And.intro (And.intro Ty.un29 (And.intro Ty.sz30 Ty.by30)) (And.intro (And.intro Ty.ag30 Ty.sz41) (And.intro Ty.by41 Ty.ag41)))) (And.intro (And.intro (And.intro Ty.zr41 (And.intro Ty.un41 Ty.sz53)) (And.intro (And.intro Ty.by53 Ty.ag53) (And.intro Ty.zr53 Ty.fl53_0))) (And.intro (And.intro Ty.pl53_0 (And.intro Ty.fl53_1 Ty.pl53_1)) (And.intro (And.intro Ty.sz54 Ty.by54) (And.intro Ty.ag54 Ty.zr54)))))) (And.intro (And.intro (And.intro (And.intro (And.intro Ty.un54 (And.intro Ty.sz56 Ty.by56)) (And.intro Ty.ag56 (And.intro Ty.zr56 Ty.fl56_0))) (And.intro (And.intro Ty.pl56_0 (And.intro Ty.fl56_1 Ty.pl56_1)) (And.intro (And.intro Ty.fl56_2 Ty.pl56_2) (And.intro Ty.fl56_3 Ty.pl56_3)))) (And.intro (And.intro (And.intro Ty.fl56_4 (And.intro Ty.pl56_4 Ty.fl56_5)) (And.intro (And.intro Ty.pl56_5 Ty.fl56_6) (And.intro Ty.pl56_6 Ty.sz61))) (And.intro (And.intro Ty.by61 (And.intro Ty.ag61 Ty.zr61)) (And.intro (And.intro Ty.fl61_0 Ty.pl61_0) (And.intro Ty.fl61_1 Ty.pl61_1))))) (And.intro (And.intro (And.intro (And.intro Ty.fl61_2 (And.intro Ty.pl61_2 Ty.sz65)) (And.intro Ty.by65 (And.intro Ty.ag65 Ty.zr65))) (And.intro (And.intro Ty.fl65_0 (And.intro Ty.pl65_0 Ty.fl65_1)) (And.intro (And.intro Ty.pl65_1 Ty.sz109) (And.intro Ty.by109 Ty.ag109)))) (And.intro (And.intro (And.intro Ty.zr109 (And.intro Ty.fl109_0 Ty.pl109_0)) (And.intro (And.intro Ty.fl109_1 Ty.pl109_1) (And.intro Ty.fl109_2 Ty.pl109_2))) (And.intro (And.intro Ty.eq53 (And.intro Ty.eq109 Ty.cb10)) (And.intro (And.intro Ty.cb11 Ty.cb12) (And.intro Ty.cb17 Ty.cb18)))))))
theorem commutes_ok (a : Arr) (d : List Dlt) (since half : Int) (ha : fitA a) (hd : fitDs d) : OkP Try.prog 4 [vArr a, vDlts d, vint since, vint half] (vbool true) := by
  refine Ok.of_ex Ty.mixed Try.func4 rfl (by simp [Try.ntmps4]) (by kernel_rfl) fun F w0 I0 => ?_
  simp only [↓ruleA0, ↓ruleA1, ↓ruleA2, ruleB0, ruleB1, ruleB2, ruleB3, ruleL, ↓retK, ncall, Todo_eq, packV, eqTB, litB, litV, fitL, fit, veqL, veq, sbin, sun, nilB, cellsV, oneB, okC, vals, fillV, partsE, Int.reduceLE, Int.reduceLT, Int.reduceToNat, Nat.reduceAdd, Nat.reduceEqDiff, Nat.reduceLT, Nat.reduceLeDiff, Nat.reduceMul, Nat.reduceSub, reduceCtorEq, tbAKc0, Try.results4]
  refine fun b4 h4 => ?_; replace h4 := newb h4; try simp only [Nb] at h4
  simp only [↓ruleA0, ↓ruleA1, ↓ruleA2, ruleB0, ruleB1, ruleB2, ruleB3, ruleL, ↓retK, ncall, Todo_eq, packV, eqTB, litB, litV, fitL, fit, veqL, veq, sbin, sun, nilB, cellsV, oneB, okC, vals, fillV, partsE, Int.reduceLE, Int.reduceLT, Int.reduceToNat, Nat.reduceAdd, Nat.reduceEqDiff, Nat.reduceLT, Nat.reduceLeDiff, Nat.reduceMul, Nat.reduceSub, reduceCtorEq, tbAKc0, Try.results4, h4]
  refine OkF_of _ example_ok ?_
  simp only [↓ruleA0, ↓ruleA1, ↓ruleA2, ruleB0, ruleB1, ruleB2, ruleB3, ruleL, ↓retK, ncall, Todo_eq, packV, eqTB, litB, litV, fitL, fit, veqL, veq, sbin, sun, nilB, cellsV, oneB, okC, vals, fillV, partsE, Int.reduceLE, Int.reduceLT, Int.reduceToNat, Nat.reduceAdd, Nat.reduceEqDiff, Nat.reduceLT, Nat.reduceLeDiff, Nat.reduceMul, Nat.reduceSub, reduceCtorEq, tbAKc0, Try.results4, h4]
  refine OkF_of _ (right_ok a d ha hd.1) ?_
  cases hr : rightM a d
  · simp only [↓ruleA0, ↓ruleA1, ↓ruleA2, ruleB0, ruleB1, ruleB2, ruleB3, ruleL, ↓retK, ncall, Todo_eq, packV, eqTB, litB, litV, fitL, fit, veqL, veq, sbin, sun, nilB, cellsV, oneB, okC, vals, fillV, partsE, Int.reduceLE, Int.reduceLT, Int.reduceToNat, Nat.reduceAdd, Nat.reduceEqDiff, Nat.reduceLT, Nat.reduceLeDiff, Nat.reduceMul, Nat.reduceSub, reduceCtorEq, tbAKc0, Try.results4, h4]
    exact ret_done rfl
  have hv := right_valid ha hr
  have hfew := right_few hr
  simp only [↓ruleA0, ↓ruleA1, ↓ruleA2, ruleB0, ruleB1, ruleB2, ruleB3, ruleL, ↓retK, ncall, Todo_eq, packV, eqTB, litB, litV, fitL, fit, veqL, veq, sbin, sun, nilB, cellsV, oneB, okC, vals, fillV, partsE, Int.reduceLE, Int.reduceLT, Int.reduceToNat, Nat.reduceAdd, Nat.reduceEqDiff, Nat.reduceLT, Nat.reduceLeDiff, Nat.reduceMul, Nat.reduceSub, reduceCtorEq, tbAKc0, Try.results4, h4]
  refine OkF_of _ (advP_ok a since ha) ?_
  generalize hp : advA a since = p
  obtain ⟨b, e⟩ := p
  simp only [↓ruleA0, ↓ruleA1, ↓ruleA2, ruleB0, ruleB1, ruleB2, ruleB3, ruleL, ↓retK, ncall, Todo_eq, packV, eqTB, litB, litV, fitL, fit, veqL, veq, sbin, sun, nilB, cellsV, oneB, okC, vals, fillV, partsE, Int.reduceLE, Int.reduceLT, Int.reduceToNat, Nat.reduceAdd, Nat.reduceEqDiff, Nat.reduceLT, Nat.reduceLeDiff, Nat.reduceMul, Nat.reduceSub, reduceCtorEq, tbAKc0, Try.results4, h4]
  refine fun b10 h10 => ?_; replace h10 := newb h10; try simp only [Nb] at h10
  by_cases he : e = 0
  · subst he
    obtain ⟨p1, p2, hb⟩ := adv_zero hp
    have hbf : fitA b := hb ▸ fit_of (ha.2.adv since)
    have hbs : b.since = since := by rw [hb]; rfl
    have hbl : (allD b.groups).length ≤ (allD a.groups).length := by rw [hb]; exact Nat.le_trans (ofM_len _ _) (by rw [advD_len]; exact Nat.le_refl _)
    simp only [↓ruleA0, ↓ruleA1, ↓ruleA2, ruleB0, ruleB1, ruleB2, ruleB3, ruleL, ↓retK, ncall, Todo_eq, packV, eqTB, litB, litV, fitL, fit, veqL, veq, sbin, sun, nilB, cellsV, oneB, okC, vals, fillV, partsE, Int.reduceLE, Int.reduceLT, Int.reduceToNat, Nat.reduceAdd, Nat.reduceEqDiff, Nat.reduceLT, Nat.reduceLeDiff, Nat.reduceMul, Nat.reduceSub, reduceCtorEq, tbAKc0, Try.results4, h4, h10]
    refine OkF_of _ (insP_ok b d hbf (fit_append hbf hd (by omega))) ?_
    generalize hx : insA b d = px
    obtain ⟨x, f⟩ := px
    simp only [↓ruleA0, ↓ruleA1, ↓ruleA2, ruleB0, ruleB1, ruleB2, ruleB3, ruleL, ↓retK, ncall, Todo_eq, packV, eqTB, litB, litV, fitL, fit, veqL, veq, sbin, sun, nilB, cellsV, oneB, okC, vals, fillV, partsE, Int.reduceLE, Int.reduceLT, Int.reduceToNat, Nat.reduceAdd, Nat.reduceEqDiff, Nat.reduceLT, Nat.reduceLeDiff, Nat.reduceMul, Nat.reduceSub, reduceCtorEq, tbAKc0, Try.results4, h4, h10]
    refine fun b12 h12 => ?_; replace h12 := newb h12; try simp only [Nb] at h12
    simp only [↓ruleA0, ↓ruleA1, ↓ruleA2, ruleB0, ruleB1, ruleB2, ruleB3, ruleL, ↓retK, ncall, Todo_eq, packV, eqTB, litB, litV, fitL, fit, veqL, veq, sbin, sun, nilB, cellsV, oneB, okC, vals, fillV, partsE, Int.reduceLE, Int.reduceLT, Int.reduceToNat, Nat.reduceAdd, Nat.reduceEqDiff, Nat.reduceLT, Nat.reduceLeDiff, Nat.reduceMul, Nat.reduceSub, reduceCtorEq, tbAKc0, Try.results4, h4, h10, h12]
    refine OkF_of _ (insP_ok a d ha (fit_append ha hd (by omega))) ?_
    generalize hy : insA a d = py
    obtain ⟨y, g⟩ := py
    simp only [↓ruleA0, ↓ruleA1, ↓ruleA2, ruleB0, ruleB1, ruleB2, ruleB3, ruleL, ↓retK, ncall, Todo_eq, packV, eqTB, litB, litV, fitL, fit, veqL, veq, sbin, sun, nilB, cellsV, oneB, okC, vals, fillV, partsE, Int.reduceLE, Int.reduceLT, Int.reduceToNat, Nat.reduceAdd, Nat.reduceEqDiff, Nat.reduceLT, Nat.reduceLeDiff, Nat.reduceMul, Nat.reduceSub, reduceCtorEq, tbAKc0, Try.results4, h4, h10, h12]
    refine fun b14 h14 => ?_; replace h14 := newb h14; try simp only [Nb] at h14
    simp only [↓ruleA0, ↓ruleA1, ↓ruleA2, ruleB0, ruleB1, ruleB2, ruleB3, ruleL, ↓retK, ncall, Todo_eq, packV, eqTB, litB, litV, fitL, fit, veqL, veq, sbin, sun, nilB, cellsV, oneB, okC, vals, fillV, partsE, Int.reduceLE, Int.reduceLT, Int.reduceToNat, Nat.reduceAdd, Nat.reduceEqDiff, Nat.reduceLT, Nat.reduceLeDiff, Nat.reduceMul, Nat.reduceSub, reduceCtorEq, tbAKc0, Try.results4, h4, h10, h12, h14]
    by_cases hf : f = 0
    · subst hf
      obtain ⟨hlb, hxe⟩ := ins_zero hx
      have hlate : ∀ x ∈ d, since ≤ x.tick := by have := late_not hlb; rwa [hbs] at this
      have hya := ins_in (not_late (a := a) (d := d) fun x hx => by have := hlate x hx; omega)
      rw [hy] at hya
      obtain ⟨hye, hge⟩ := Prod.mk.inj hya
      subst hge
      have hyf : fitA y := hye ▸ fit_of (fit_append ha hd (by omega))
      have hxf : fitA x := hxe ▸ fit_of (fit_append hbf hd (by omega))
      have hys : y.since = a.since := by rw [hye]; rfl
      have hz := adv_in (a := y) p1 (by rw [hys]; exact p2)
      have hxz : x = ofM since (advD since (allD y.groups)) := by
        rw [hxe, hbs, hye, hb]
        exact commute1 ha hd hlate
      rw [← hxz] at hz
      simp only [↓ruleA0, ↓ruleA1, ↓ruleA2, ruleB0, ruleB1, ruleB2, ruleB3, ruleL, ↓retK, ncall, Todo_eq, packV, eqTB, litB, litV, fitL, fit, veqL, veq, sbin, sun, nilB, cellsV, oneB, okC, vals, fillV, partsE, Int.reduceLE, Int.reduceLT, Int.reduceToNat, Nat.reduceAdd, Nat.reduceEqDiff, Nat.reduceLT, Nat.reduceLeDiff, Nat.reduceMul, Nat.reduceSub, reduceCtorEq, tbAKc0, Try.results4, h4, h10, h12, h14]
      refine OkF_of _ (advP_ok y since hyf) ?_
      rw [hz]
      simp only [↓ruleA0, ↓ruleA1, ↓ruleA2, ruleB0, ruleB1, ruleB2, ruleB3, ruleL, ↓retK, ncall, Todo_eq, packV, eqTB, litB, litV, fitL, fit, veqL, veq, sbin, sun, nilB, cellsV, oneB, okC, vals, fillV, partsE, Int.reduceLE, Int.reduceLT, Int.reduceToNat, Nat.reduceAdd, Nat.reduceEqDiff, Nat.reduceLT, Nat.reduceLeDiff, Nat.reduceMul, Nat.reduceSub, reduceCtorEq, tbAKc0, Try.results4, h4, h10, h12, h14]
      refine fun b16 h16 => ?_; replace h16 := newb h16; try simp only [Nb] at h16
      simp only [↓ruleA0, ↓ruleA1, ↓ruleA2, ruleB0, ruleB1, ruleB2, ruleB3, ruleL, ↓retK, ncall, Todo_eq, packV, eqTB, litB, litV, fitL, fit, veqL, veq, sbin, sun, nilB, cellsV, oneB, okC, vals, fillV, partsE, Int.reduceLE, Int.reduceLT, Int.reduceToNat, Nat.reduceAdd, Nat.reduceEqDiff, Nat.reduceLT, Nat.reduceLeDiff, Nat.reduceMul, Nat.reduceSub, reduceCtorEq, tbAKc0, Try.results4, h4, h10, h12, h14, h16]
      refine OkF_of _ (same_self x hxf) ?_
      simp only [↓ruleA0, ↓ruleA1, ↓ruleA2, ruleB0, ruleB1, ruleB2, ruleB3, ruleL, ↓retK, ncall, Todo_eq, packV, eqTB, litB, litV, fitL, fit, veqL, veq, sbin, sun, nilB, cellsV, oneB, okC, vals, fillV, partsE, Int.reduceLE, Int.reduceLT, Int.reduceToNat, Nat.reduceAdd, Nat.reduceEqDiff, Nat.reduceLT, Nat.reduceLeDiff, Nat.reduceMul, Nat.reduceSub, reduceCtorEq, tbAKc0, Try.results4, h4, h10, h12, h14, h16]
      refine OkF_of _ (advP_ok a half ha) ?_
      generalize hc : advA a half = pc
      obtain ⟨c, i⟩ := pc
      simp only [↓ruleA0, ↓ruleA1, ↓ruleA2, ruleB0, ruleB1, ruleB2, ruleB3, ruleL, ↓retK, ncall, Todo_eq, packV, eqTB, litB, litV, fitL, fit, veqL, veq, sbin, sun, nilB, cellsV, oneB, okC, vals, fillV, partsE, Int.reduceLE, Int.reduceLT, Int.reduceToNat, Nat.reduceAdd, Nat.reduceEqDiff, Nat.reduceLT, Nat.reduceLeDiff, Nat.reduceMul, Nat.reduceSub, reduceCtorEq, tbAKc0, Try.results4, h4, h10, h12, h14, h16]
      refine fun b18 h18 => ?_; replace h18 := newb h18; try simp only [Nb] at h18
      by_cases hi : i = 0
      · subst hi
        by_cases hh : since < half
        · simp only [↓ruleA0, ↓ruleA1, ↓ruleA2, ruleB0, ruleB1, ruleB2, ruleB3, ruleL, ↓retK, ncall, Todo_eq, packV, eqTB, litB, litV, fitL, fit, veqL, veq, sbin, sun, nilB, cellsV, oneB, okC, vals, fillV, partsE, Int.reduceLE, Int.reduceLT, Int.reduceToNat, Nat.reduceAdd, Nat.reduceEqDiff, Nat.reduceLT, Nat.reduceLeDiff, Nat.reduceMul, Nat.reduceSub, reduceCtorEq, tbAKc0, Try.results4, h4, h10, h12, h14, h16, h18, hh]
          exact ret_done rfl
        · obtain ⟨c1, c2, hce⟩ := adv_zero hc
          have hcf : fitA c := hce ▸ fit_of (ha.2.adv half)
          have hcs : c.since = half := by rw [hce]; rfl
          have hw := adv_in (a := c) p1 (by rw [hcs]; omega)
          have hwb : ofM since (advD since (allD c.groups)) = b := by rw [hce, hb]; exact commute2 ha (by omega)
          rw [hwb] at hw
          simp only [↓ruleA0, ↓ruleA1, ↓ruleA2, ruleB0, ruleB1, ruleB2, ruleB3, ruleL, ↓retK, ncall, Todo_eq, packV, eqTB, litB, litV, fitL, fit, veqL, veq, sbin, sun, nilB, cellsV, oneB, okC, vals, fillV, partsE, Int.reduceLE, Int.reduceLT, Int.reduceToNat, Nat.reduceAdd, Nat.reduceEqDiff, Nat.reduceLT, Nat.reduceLeDiff, Nat.reduceMul, Nat.reduceSub, reduceCtorEq, tbAKc0, Try.results4, h4, h10, h12, h14, h16, h18, hh]
          refine OkF_of _ (advP_ok c since hcf) ?_
          rw [hw]
          simp only [↓ruleA0, ↓ruleA1, ↓ruleA2, ruleB0, ruleB1, ruleB2, ruleB3, ruleL, ↓retK, ncall, Todo_eq, packV, eqTB, litB, litV, fitL, fit, veqL, veq, sbin, sun, nilB, cellsV, oneB, okC, vals, fillV, partsE, Int.reduceLE, Int.reduceLT, Int.reduceToNat, Nat.reduceAdd, Nat.reduceEqDiff, Nat.reduceLT, Nat.reduceLeDiff, Nat.reduceMul, Nat.reduceSub, reduceCtorEq, tbAKc0, Try.results4, h4, h10, h12, h14, h16, h18, hh]
          refine fun b20 h20 => ?_; replace h20 := newb h20; try simp only [Nb] at h20
          simp only [↓ruleA0, ↓ruleA1, ↓ruleA2, ruleB0, ruleB1, ruleB2, ruleB3, ruleL, ↓retK, ncall, Todo_eq, packV, eqTB, litB, litV, fitL, fit, veqL, veq, sbin, sun, nilB, cellsV, oneB, okC, vals, fillV, partsE, Int.reduceLE, Int.reduceLT, Int.reduceToNat, Nat.reduceAdd, Nat.reduceEqDiff, Nat.reduceLT, Nat.reduceLeDiff, Nat.reduceMul, Nat.reduceSub, reduceCtorEq, tbAKc0, Try.results4, h4, h10, h12, h14, h16, h18, h20, hh]
          refine OkF_of _ (same_self b hbf) ?_
          simp only [↓ruleA0, ↓ruleA1, ↓ruleA2, ruleB0, ruleB1, ruleB2, ruleB3, ruleL, ↓retK, ncall, Todo_eq, packV, eqTB, litB, litV, fitL, fit, veqL, veq, sbin, sun, nilB, cellsV, oneB, okC, vals, fillV, partsE, Int.reduceLE, Int.reduceLT, Int.reduceToNat, Nat.reduceAdd, Nat.reduceEqDiff, Nat.reduceLT, Nat.reduceLeDiff, Nat.reduceMul, Nat.reduceSub, reduceCtorEq, tbAKc0, Try.results4, h4, h10, h12, h14, h16, h18, h20, hh]
          exact ret_done rfl
      · simp only [↓ruleA0, ↓ruleA1, ↓ruleA2, ruleB0, ruleB1, ruleB2, ruleB3, ruleL, ↓retK, ncall, Todo_eq, packV, eqTB, litB, litV, fitL, fit, veqL, veq, sbin, sun, nilB, cellsV, oneB, okC, vals, fillV, partsE, Int.reduceLE, Int.reduceLT, Int.reduceToNat, Nat.reduceAdd, Nat.reduceEqDiff, Nat.reduceLT, Nat.reduceLeDiff, Nat.reduceMul, Nat.reduceSub, reduceCtorEq, tbAKc0, Try.results4, h4, h10, h12, h14, h16, h18, hi]
        exact ret_done rfl
    · simp only [↓ruleA0, ↓ruleA1, ↓ruleA2, ruleB0, ruleB1, ruleB2, ruleB3, ruleL, ↓retK, ncall, Todo_eq, packV, eqTB, litB, litV, fitL, fit, veqL, veq, sbin, sun, nilB, cellsV, oneB, okC, vals, fillV, partsE, Int.reduceLE, Int.reduceLT, Int.reduceToNat, Nat.reduceAdd, Nat.reduceEqDiff, Nat.reduceLT, Nat.reduceLeDiff, Nat.reduceMul, Nat.reduceSub, reduceCtorEq, tbAKc0, Try.results4, h4, h10, h12, h14, hf]
      refine OkF_of _ (advP_ok a half ha) ?_
      generalize hc : advA a half = pc
      obtain ⟨c, i⟩ := pc
      simp only [↓ruleA0, ↓ruleA1, ↓ruleA2, ruleB0, ruleB1, ruleB2, ruleB3, ruleL, ↓retK, ncall, Todo_eq, packV, eqTB, litB, litV, fitL, fit, veqL, veq, sbin, sun, nilB, cellsV, oneB, okC, vals, fillV, partsE, Int.reduceLE, Int.reduceLT, Int.reduceToNat, Nat.reduceAdd, Nat.reduceEqDiff, Nat.reduceLT, Nat.reduceLeDiff, Nat.reduceMul, Nat.reduceSub, reduceCtorEq, tbAKc0, Try.results4, h4, h10, h12, h14]
      refine fun b18 h18 => ?_; replace h18 := newb h18; try simp only [Nb] at h18
      by_cases hi : i = 0
      · subst hi
        by_cases hh : since < half
        · simp only [↓ruleA0, ↓ruleA1, ↓ruleA2, ruleB0, ruleB1, ruleB2, ruleB3, ruleL, ↓retK, ncall, Todo_eq, packV, eqTB, litB, litV, fitL, fit, veqL, veq, sbin, sun, nilB, cellsV, oneB, okC, vals, fillV, partsE, Int.reduceLE, Int.reduceLT, Int.reduceToNat, Nat.reduceAdd, Nat.reduceEqDiff, Nat.reduceLT, Nat.reduceLeDiff, Nat.reduceMul, Nat.reduceSub, reduceCtorEq, tbAKc0, Try.results4, h4, h10, h12, h14, h18, hh]
          exact ret_done rfl
        · obtain ⟨c1, c2, hce⟩ := adv_zero hc
          have hcf : fitA c := hce ▸ fit_of (ha.2.adv half)
          have hcs : c.since = half := by rw [hce]; rfl
          have hw := adv_in (a := c) p1 (by rw [hcs]; omega)
          have hwb : ofM since (advD since (allD c.groups)) = b := by rw [hce, hb]; exact commute2 ha (by omega)
          rw [hwb] at hw
          simp only [↓ruleA0, ↓ruleA1, ↓ruleA2, ruleB0, ruleB1, ruleB2, ruleB3, ruleL, ↓retK, ncall, Todo_eq, packV, eqTB, litB, litV, fitL, fit, veqL, veq, sbin, sun, nilB, cellsV, oneB, okC, vals, fillV, partsE, Int.reduceLE, Int.reduceLT, Int.reduceToNat, Nat.reduceAdd, Nat.reduceEqDiff, Nat.reduceLT, Nat.reduceLeDiff, Nat.reduceMul, Nat.reduceSub, reduceCtorEq, tbAKc0, Try.results4, h4, h10, h12, h14, h18, hh]
          refine OkF_of _ (advP_ok c since hcf) ?_
          rw [hw]
          simp only [↓ruleA0, ↓ruleA1, ↓ruleA2, ruleB0, ruleB1, ruleB2, ruleB3, ruleL, ↓retK, ncall, Todo_eq, packV, eqTB, litB, litV, fitL, fit, veqL, veq, sbin, sun, nilB, cellsV, oneB, okC, vals, fillV, partsE, Int.reduceLE, Int.reduceLT, Int.reduceToNat, Nat.reduceAdd, Nat.reduceEqDiff, Nat.reduceLT, Nat.reduceLeDiff, Nat.reduceMul, Nat.reduceSub, reduceCtorEq, tbAKc0, Try.results4, h4, h10, h12, h14, h18, hh]
          refine fun b20 h20 => ?_; replace h20 := newb h20; try simp only [Nb] at h20
          simp only [↓ruleA0, ↓ruleA1, ↓ruleA2, ruleB0, ruleB1, ruleB2, ruleB3, ruleL, ↓retK, ncall, Todo_eq, packV, eqTB, litB, litV, fitL, fit, veqL, veq, sbin, sun, nilB, cellsV, oneB, okC, vals, fillV, partsE, Int.reduceLE, Int.reduceLT, Int.reduceToNat, Nat.reduceAdd, Nat.reduceEqDiff, Nat.reduceLT, Nat.reduceLeDiff, Nat.reduceMul, Nat.reduceSub, reduceCtorEq, tbAKc0, Try.results4, h4, h10, h12, h14, h18, h20, hh]
          refine OkF_of _ (same_self b hbf) ?_
          simp only [↓ruleA0, ↓ruleA1, ↓ruleA2, ruleB0, ruleB1, ruleB2, ruleB3, ruleL, ↓retK, ncall, Todo_eq, packV, eqTB, litB, litV, fitL, fit, veqL, veq, sbin, sun, nilB, cellsV, oneB, okC, vals, fillV, partsE, Int.reduceLE, Int.reduceLT, Int.reduceToNat, Nat.reduceAdd, Nat.reduceEqDiff, Nat.reduceLT, Nat.reduceLeDiff, Nat.reduceMul, Nat.reduceSub, reduceCtorEq, tbAKc0, Try.results4, h4, h10, h12, h14, h18, h20, hh]
          exact ret_done rfl
      · simp only [↓ruleA0, ↓ruleA1, ↓ruleA2, ruleB0, ruleB1, ruleB2, ruleB3, ruleL, ↓retK, ncall, Todo_eq, packV, eqTB, litB, litV, fitL, fit, veqL, veq, sbin, sun, nilB, cellsV, oneB, okC, vals, fillV, partsE, Int.reduceLE, Int.reduceLT, Int.reduceToNat, Nat.reduceAdd, Nat.reduceEqDiff, Nat.reduceLT, Nat.reduceLeDiff, Nat.reduceMul, Nat.reduceSub, reduceCtorEq, tbAKc0, Try.results4, h4, h10, h12, h14, h18, hi]
        exact ret_done rfl
  · simp only [↓ruleA0, ↓ruleA1, ↓ruleA2, ruleB0, ruleB1, ruleB2, ruleB3, ruleL, ↓retK, ncall, Todo_eq, packV, eqTB, litB, litV, fitL, fit, veqL, veq, sbin, sun, nilB, cellsV, oneB, okC, vals, fillV, partsE, Int.reduceLE, Int.reduceLT, Int.reduceToNat, Nat.reduceAdd, Nat.reduceEqDiff, Nat.reduceLT, Nat.reduceLeDiff, Nat.reduceMul, Nat.reduceSub, reduceCtorEq, tbAKc0, Try.results4, h4, h10, he]
    exact ret_done rfl
end Go.Proofs.Ytopfanlkbepemaa

/- Arrangements: ArrangePurges. -/
set_option linter.unusedSimpArgs false
set_option maxRecDepth 100000
namespace Go.Proofs.Ytopfanlkbepemaa
open Go.VL Go.Ar Go.Proofs.Ytopfanlkbepemaa

def keptR (ids : List FID) (r : Rw) : Bool := !decide (r.id ∈ ids)
theorem rowsK_purge {a : Arr} (ha : fitA a) (ids : List FID) (k : Str) (lo hi t : Int) : rowsK (purA a ids) k lo hi t = (rowsK a k lo hi t).filter (keptR ids) := by
  have h1 := rowsAt_ofM (s := a.since) (okN_purge ha.2.okN ids) k t
  rw [part_purge, rowsAt_purge (okN_part ha.2.okN k)] at h1
  unfold rowsK
  rw [show rowsAt (partD (allD (purA a ids).groups) k) t = _ from h1, List.filter_filter, List.filter_filter]
  exact List.filter_congr fun x _ => Bool.and_comm _ _
theorem rowsA_purge {a : Arr} (ha : fitA a) (ids : List FID) (k : Str) (lo hi t : Int) : rowsA (purA a ids) k lo hi t = ((rowsA a k lo hi t).1.filter (keptR ids), (rowsA a k lo hi t).2) := by
  unfold rowsA
  have : (purA a ids).since = a.since := rfl
  rw [this]
  split
  · rfl
  · rw [rowsK_purge ha]
theorem adv_code {a p : Arr} (h : p.since = a.since) (s : Int) : (advA p s).2 = (advA a s).2 := by
  unfold advA
  rw [h]
  split
  · rfl
  · split <;> rfl
theorem purge_adv_eq {a : Arr} (ha : fitA a) (ids : List FID) (s : Int) : purA (ofM s (advD s (allD a.groups))) ids = ofM s (advD s (allD (purA a ids).groups)) := by
  have n1 := okN_adv ha.2.okN s
  have n2 := okN_purge ha.2.okN ids
  refine ofM_eq (okN_purge (grpsM_ok n1).okN ids) (okN_adv (grpsM_ok n2).okN s) ?_
  refine ((grpsM_coef n1).purge ids).trans ?_
  rw [purge_adv]
  exact ((grpsM_coef n2).adv s).symm
theorem keptR_take (R : List Rw) (ids : List FID) (i : Nat) (h : i < R.length) : (R.take (i + 1)).filter (keptR ids) = (R.take i).filter (keptR ids) ++ (if keptR ids R[i] = true then [R[i]] else []) := by
  rw [List.take_succ_eq_append_getElem h, List.filter_append]
  by_cases hx : keptR ids R[i] = true <;> simp [hx]
theorem any_take (ids : List FID) (x : FID) (k : Nat) (h : k < ids.length) : (ids.take (k + 1)).any (fun j => decide (j = x)) = ((ids.take k).any (fun j => decide (j = x)) || decide (ids[k] = x)) := by
  rw [List.take_succ_eq_append_getElem h, List.any_append]; simp
theorem any_mem (ids : List FID) (x : FID) : (ids.any fun j => decide (j = x)) = decide (x ∈ ids) := by
  rw [Bool.eq_iff_iff]
  simp
set_option linter.defProp false in
def tbAKd0 := (And.intro (And.intro (And.intro (And.intro (And.intro (And.intro (And.intro Ty.sz3 Ty.by3) (And.intro Ty.ag3 Ty.zr3)) (And.intro (And.intro Ty.un3 Ty.sz4) (And.intro Ty.by4 Ty.ag4))) (And.intro (And.intro (And.intro Ty.zr4 Ty.un4) (And.intro Ty.sz9 Ty.by9)) (And.intro (And.intro Ty.ag9 Ty.zr9) (And.intro Ty.un9 Ty.sz22)))) (And.intro (And.intro (And.intro (And.intro Ty.by22 Ty.ag22) (And.intro Ty.zr22 Ty.un22)) (And.intro (And.intro Ty.sz24 Ty.by24) (And.intro Ty.ag24 Ty.zr24))) (And.intro (And.intro (And.intro Ty.fl24_0 Ty.pl24_0) (And.intro Ty.fl24_1 Ty.pl24_1)) (And.intro (And.intro Ty.sz26 Ty.by26) (And.intro Ty.ag26 (And.intro Ty.zr26 Ty.fl26_0)))))) (And.intro (And.intro (And.intro (And.intro (And.intro Ty.pl26_0 Ty.fl26_1) (And.intro Ty.pl26_1 Ty.sz29)) (And.intro (And.intro Ty.by29 Ty.ag29) (And.intro Ty.zr29 Ty.un29))) (And.intro (And.intro (And.intro Ty.sz30 Ty.by30) (And.intro Ty.ag30 Ty.sz32)) (And.intro (And.intro Ty.by32 Ty.ag32) (And.intro Ty.zr32 Ty.un32)))) (And.intro (And.intro (And.intro (And.intro Ty.sz33 Ty.by33) (And.intro Ty.ag33 Ty.sz41)) (And.intro (And.intro Ty.by41 Ty.ag41) (And.intro Ty.zr41 Ty.un41))) (And.intro (And.intro (And.intro Ty.sz47 Ty.by47) (And.intro Ty.ag47 Ty.zr47)) (And.intro (And.intro Ty.un47 Ty.sz53) (And.intro Ty.by53 (And.intro Ty.ag53 Ty.zr53))))))) (And.intro (And.intro (And.intro (And.intro (And.intro (And.intro Ty.fl53_0 Ty.pl53_0) (And.intro Ty.fl53_1 Ty.pl53_1)) (And.intro (And.intro Ty.sz54 Ty.by54) (And.intro Ty.ag54 Ty.zr54))) (And.intro (And.intro (And.intro Ty.un54 Ty.sz56) (And.intro Ty.by56 Ty.ag56)) (And.intro (And.intro Ty.zr56 Ty.fl56_0) (And.intro Ty.pl56_0 Ty.fl56_1)))) (And.intro (And.intro (And.intro (And.intro Ty.pl56_1 Ty.fl56_2) (And.intro Ty.pl56_2 Ty.fl56_3)) (And.intro (And.intro Ty.pl56_3 Ty.fl56_4) (And.intro Ty.pl56_4 Ty.fl56_5))) (And.intro (And.intro (And.intro Ty.pl56_5 Ty.fl56_6) (And.intro Ty.pl56_6 Ty.sz61)) (And.intro (And.intro Ty.by61 Ty.ag61) (And.intro Ty.zr61 (And.intro Ty.fl61_0 Ty.pl61_0)))))) (And.intro (And.intro (And.intro (And.intro (And.intro Ty.fl61_1 Ty.pl61_1) (And.intro Ty.fl61_2 Ty.pl61_2)) (And.intro (And.intro Ty.sz65 Ty.by65) (And.intro Ty.ag65 Ty.zr65))) (And.intro (And.intro (And.intro Ty.fl65_0 Ty.pl65_0) (And.intro Ty.fl65_1 Ty.pl65_1)) (And.intro (And.intro Ty.sz109 Ty.by109) (And.intro Ty.ag109 (And.intro Ty.zr109 Ty.fl109_0))))) (And.intro (And.intro (And.intro (And.intro Ty.pl109_0 Ty.fl109_1) (And.intro Ty.pl109_1 Ty.fl109_2)) (And.intro (And.intro Ty.pl109_2 Ty.eq26) (And.intro Ty.eq53 Ty.eq109))) (And.intro (And.intro (And.intro Ty.cb10 Ty.cb11) (And.intro Ty.cb12 Ty.cb13)) (And.intro (And.intro Ty.cb15 Ty.cb18) (And.intro Ty.cb22 (And.intro Ty.cb24 Ty.cb25))))))))
theorem purges_ok (a : Arr) (ids : List FID) (since : Int) (key : Str) (tick : Int) (ha : fitA a) (hids : ids.length ≤ 1048576) : OkP Try.prog 7 [vArr a, vFIDs ids, vint since, vstr key, vint tick] (vbool true) := by
  have hi0 := ids_len ids hids
  have hpf := purA_fit ha ids
  have hpg : GsOk (purA a ids).groups := grpsM_ok (okN_purge ha.2.okN ids)
  refine Ok.of_ex Ty.mixed Try.func7 rfl (by simp [Try.ntmps7]) (by kernel_rfl) fun F w0 I0 => ?_
  simp only [↓ruleA0, ↓ruleA1, ↓ruleA2, ruleB0, ruleB1, ruleB2, ruleB3, ruleL, ↓retK, ncall, Todo_eq, packV, eqTB, litB, litV, fitL, fit, veqL, veq, sbin, sun, nilB, cellsV, oneB, okC, vals, fillV, partsE, Int.reduceLE, Int.reduceLT, Int.reduceToNat, Nat.reduceAdd, Nat.reduceEqDiff, Nat.reduceLT, Nat.reduceLeDiff, Nat.reduceMul, Nat.reduceSub, reduceCtorEq, tbAKd0, Try.results7]
  refine fun b5 h5 => ?_; replace h5 := newb h5; try simp only [Nb] at h5
  simp only [↓ruleA0, ↓ruleA1, ↓ruleA2, ruleB0, ruleB1, ruleB2, ruleB3, ruleL, ↓retK, ncall, Todo_eq, packV, eqTB, litB, litV, fitL, fit, veqL, veq, sbin, sun, nilB, cellsV, oneB, okC, vals, fillV, partsE, Int.reduceLE, Int.reduceLT, Int.reduceToNat, Nat.reduceAdd, Nat.reduceEqDiff, Nat.reduceLT, Nat.reduceLeDiff, Nat.reduceMul, Nat.reduceSub, reduceCtorEq, tbAKd0, Try.results7, h5]
  refine OkF_of _ example_ok ?_
  simp only [↓ruleA0, ↓ruleA1, ↓ruleA2, ruleB0, ruleB1, ruleB2, ruleB3, ruleL, ↓retK, ncall, Todo_eq, packV, eqTB, litB, litV, fitL, fit, veqL, veq, sbin, sun, nilB, cellsV, oneB, okC, vals, fillV, partsE, Int.reduceLE, Int.reduceLT, Int.reduceToNat, Nat.reduceAdd, Nat.reduceEqDiff, Nat.reduceLT, Nat.reduceLeDiff, Nat.reduceMul, Nat.reduceSub, reduceCtorEq, tbAKd0, Try.results7, h5]
  refine OkF_le (.cons (Le.refl _) (.cons (Le.nil 10) .nil)) _ (right_ok a [] ha (Nat.zero_le _)) ?_
  cases hr : rightM a []
  · simp only [↓ruleA0, ↓ruleA1, ↓ruleA2, ruleB0, ruleB1, ruleB2, ruleB3, ruleL, ↓retK, ncall, Todo_eq, packV, eqTB, litB, litV, fitL, fit, veqL, veq, sbin, sun, nilB, cellsV, oneB, okC, vals, fillV, partsE, Int.reduceLE, Int.reduceLT, Int.reduceToNat, Nat.reduceAdd, Nat.reduceEqDiff, Nat.reduceLT, Nat.reduceLeDiff, Nat.reduceMul, Nat.reduceSub, reduceCtorEq, tbAKd0, Try.results7, h5]
    exact ret_done rfl
  have hv := right_valid ha hr
  by_cases h50 : (50 : Int) < (ids.length : Int)
  · simp only [↓ruleA0, ↓ruleA1, ↓ruleA2, ruleB0, ruleB1, ruleB2, ruleB3, ruleL, ↓retK, ncall, Todo_eq, packV, eqTB, litB, litV, fitL, fit, veqL, veq, sbin, sun, nilB, cellsV, oneB, okC, vals, fillV, partsE, Int.reduceLE, Int.reduceLT, Int.reduceToNat, Nat.reduceAdd, Nat.reduceEqDiff, Nat.reduceLT, Nat.reduceLeDiff, Nat.reduceMul, Nat.reduceSub, reduceCtorEq, tbAKd0, Try.results7, h5, List.length_map, h50]
    exact ret_done rfl
  simp only [↓ruleA0, ↓ruleA1, ↓ruleA2, ruleB0, ruleB1, ruleB2, ruleB3, ruleL, ↓retK, ncall, Todo_eq, packV, eqTB, litB, litV, fitL, fit, veqL, veq, sbin, sun, nilB, cellsV, oneB, okC, vals, fillV, partsE, Int.reduceLE, Int.reduceLT, Int.reduceToNat, Nat.reduceAdd, Nat.reduceEqDiff, Nat.reduceLT, Nat.reduceLeDiff, Nat.reduceMul, Nat.reduceSub, reduceCtorEq, tbAKd0, Try.results7, h5, List.length_map, h50]
  refine OkF_of _ (purgeP_ok a ids ha hi0) ?_
  have hrf := rowsA_fit ha key 0 1099511627776 tick
  have hR1 := rowsP_ok a key 0 1099511627776 tick ha.fitG hv.gs
  have hR2 := rowsP_ok (purA a ids) key 0 1099511627776 tick hpf.fitG hpg
  rw [rowsA_purge ha] at hR2
  generalize rowsA a key 0 1099511627776 tick = R at hrf hR1 hR2
  obtain ⟨R, e⟩ := R
  simp only at hrf hR2
  have hRl := hrf.1
  unfold big at hRl
  simp only [↓ruleA0, ↓ruleA1, ↓ruleA2, ruleB0, ruleB1, ruleB2, ruleB3, ruleL, ↓retK, ncall, Todo_eq, packV, eqTB, litB, litV, fitL, fit, veqL, veq, sbin, sun, nilB, cellsV, oneB, okC, vals, fillV, partsE, Int.reduceLE, Int.reduceLT, Int.reduceToNat, Nat.reduceAdd, Nat.reduceEqDiff, Nat.reduceLT, Nat.reduceLeDiff, Nat.reduceMul, Nat.reduceSub, reduceCtorEq, tbAKd0, Try.results7, h5]
  refine fun b12 h12 => ?_; replace h12 := newb h12; try simp only [Nb] at h12
  simp only [↓ruleA0, ↓ruleA1, ↓ruleA2, ruleB0, ruleB1, ruleB2, ruleB3, ruleL, ↓retK, ncall, Todo_eq, packV, eqTB, litB, litV, fitL, fit, veqL, veq, sbin, sun, nilB, cellsV, oneB, okC, vals, fillV, partsE, Int.reduceLE, Int.reduceLT, Int.reduceToNat, Nat.reduceAdd, Nat.reduceEqDiff, Nat.reduceLT, Nat.reduceLeDiff, Nat.reduceMul, Nat.reduceSub, reduceCtorEq, tbAKd0, Try.results7, h5, h12]
  refine CallV_of _ ever_ok.v ?_
  simp only [↓ruleA0, ↓ruleA1, ↓ruleA2, ruleB0, ruleB1, ruleB2, ruleB3, ruleL, ↓retK, ncall, Todo_eq, packV, eqTB, litB, litV, fitL, fit, veqL, veq, sbin, sun, nilB, cellsV, oneB, okC, vals, fillV, partsE, Int.reduceLE, Int.reduceLT, Int.reduceToNat, Nat.reduceAdd, Nat.reduceEqDiff, Nat.reduceLT, Nat.reduceLeDiff, Nat.reduceMul, Nat.reduceSub, reduceCtorEq, tbAKd0, Try.results7, h5, h12]
  refine CallV_of _ hR1.v ?_
  simp only [↓ruleA0, ↓ruleA1, ↓ruleA2, ruleB0, ruleB1, ruleB2, ruleB3, ruleL, ↓retK, ncall, Todo_eq, packV, eqTB, litB, litV, fitL, fit, veqL, veq, sbin, sun, nilB, cellsV, oneB, okC, vals, fillV, partsE, Int.reduceLE, Int.reduceLT, Int.reduceToNat, Nat.reduceAdd, Nat.reduceEqDiff, Nat.reduceLT, Nat.reduceLeDiff, Nat.reduceMul, Nat.reduceSub, reduceCtorEq, tbAKd0, Try.results7, h5, h12]
  refine CallV_of _ ever_ok.v ?_
  simp only [↓ruleA0, ↓ruleA1, ↓ruleA2, ruleB0, ruleB1, ruleB2, ruleB3, ruleL, ↓retK, ncall, Todo_eq, packV, eqTB, litB, litV, fitL, fit, veqL, veq, sbin, sun, nilB, cellsV, oneB, okC, vals, fillV, partsE, Int.reduceLE, Int.reduceLT, Int.reduceToNat, Nat.reduceAdd, Nat.reduceEqDiff, Nat.reduceLT, Nat.reduceLeDiff, Nat.reduceMul, Nat.reduceSub, reduceCtorEq, tbAKd0, Try.results7, h5, h12]
  refine CallV_of _ hR2.v ?_
  simp only [↓ruleA0, ↓ruleA1, ↓ruleA2, ruleB0, ruleB1, ruleB2, ruleB3, ruleL, ↓retK, ncall, Todo_eq, packV, eqTB, litB, litV, fitL, fit, veqL, veq, sbin, sun, nilB, cellsV, oneB, okC, vals, fillV, partsE, Int.reduceLE, Int.reduceLT, Int.reduceToNat, Nat.reduceAdd, Nat.reduceEqDiff, Nat.reduceLT, Nat.reduceLeDiff, Nat.reduceMul, Nat.reduceSub, reduceCtorEq, tbAKd0, Try.results7, h5, h12]
  refine AWP.nilRow 17 8 56 (by simp only [↓ruleA0, ↓ruleA1, ↓ruleA2, ruleB0, ruleB1, ruleB2, ruleB3, ruleL, ↓retK, ncall, Todo_eq, packV, eqTB, litB, litV, fitL, fit, veqL, veq, sbin, sun, nilB, cellsV, oneB, okC, vals, fillV, partsE, Int.reduceLE, Int.reduceLT, Int.reduceToNat, Nat.reduceAdd, Nat.reduceEqDiff, Nat.reduceLT, Nat.reduceLeDiff, Nat.reduceMul, Nat.reduceSub, reduceCtorEq, tbAKd0, Try.results7]) (by decide) ?_
  refine EX_forS Ty.mixed (by kernel_rfl) R.length (fun i S => ∃ y, S.σ 17 = .list (some y) 8 (((R.take i).filter (keptR ids)).map cRow) ∧ S.rows = [⟨y, 8, 56⟩] ∧ S.σ 1 = vFIDs ids ∧ S.σ 2 = vint since ∧ S.σ 5 = ptr b5 ∧ S.σ 11 = vbool true ∧ S.σ 12 = ptr b12 ∧ S.σ 13 = vRows R ∧ S.σ 15 = vRows (R.filter (keptR ids)) ∧ S.σ 18 = vint i ∧ S.boxes = [(b12, .c (cArr (purA a ids))), (b5, .c (cArr a))]) ⟨_, _, List.Sublist.refl _, List.Sublist.refl _, nilv, ?_⟩ (fun i S hi ⟨y, g17, gr, g1, g2, g5, g11, g12, g13, g15, g18, gb⟩ => ?_) (fun S ⟨y, g17, gr, g1, g2, g5, g11, g12, g13, g15, g18, gb⟩ => ?_)
  · simp only [↓ruleA0, ↓ruleA1, ↓ruleA2, ruleB0, ruleB1, ruleB2, ruleB3, ruleL, ↓retK, ncall, Todo_eq, packV, eqTB, litB, litV, fitL, fit, veqL, veq, sbin, sun, nilB, cellsV, oneB, okC, vals, fillV, partsE, Int.reduceLE, Int.reduceLT, Int.reduceToNat, Nat.reduceAdd, Nat.reduceEqDiff, Nat.reduceLT, Nat.reduceLeDiff, Nat.reduceMul, Nat.reduceSub, reduceCtorEq, tbAKd0, Try.results7, h5, h12]
    try simp
  · have htk := keptR_take R ids i hi
    have hln : ((R.take i).filter (keptR ids)).length ≤ i := by
      have := List.length_filter_le (keptR ids) (R.take i)
      simp only [List.length_take] at this
      omega
    simp only [↓ruleA0, ↓ruleA1, ↓ruleA2, ruleB0, ruleB1, ruleB2, ruleB3, ruleL, ↓retK, ncall, Todo_eq, packV, eqTB, litB, litV, fitL, fit, veqL, veq, sbin, sun, nilB, cellsV, oneB, okC, vals, fillV, partsE, Int.reduceLE, Int.reduceLT, Int.reduceToNat, Nat.reduceAdd, Nat.reduceEqDiff, Nat.reduceLT, Nat.reduceLeDiff, Nat.reduceMul, Nat.reduceSub, reduceCtorEq, tbAKd0, Try.results7, g17, gr, g1, g2, g5, g11, g12, g13, g15, g18, gb, Int.ofNat_lt, hi, List.length_map]
    refine EX_forS Ty.mixed (by kernel_rfl) ids.length (fun k S => S.σ 19 = vbool ((ids.take k).any fun j => decide (j = R[i].id)) ∧ S.σ 17 = .list (some y) 8 (((R.take i).filter (keptR ids)).map cRow) ∧ S.rows = [⟨y, 8, 56⟩] ∧ S.σ 1 = vFIDs ids ∧ S.σ 2 = vint since ∧ S.σ 5 = ptr b5 ∧ S.σ 11 = vbool true ∧ S.σ 12 = ptr b12 ∧ S.σ 13 = vRows R ∧ S.σ 15 = vRows (R.filter (keptR ids)) ∧ S.σ 18 = vint i ∧ S.σ 20 = vint k ∧ S.boxes = [(b12, .c (cArr (purA a ids))), (b5, .c (cArr a))]) ⟨_, _, List.Sublist.refl _, List.Sublist.refl _, ?_⟩ (fun k S hk ⟨g19, g17, gr, g1, g2, g5, g11, g12, g13, g15, g18, g20, gb⟩ => ?_) (fun S ⟨g19, g17, gr, g1, g2, g5, g11, g12, g13, g15, g18, g20, gb⟩ => ?_)
    · simp only [↓ruleA0, ↓ruleA1, ↓ruleA2, ruleB0, ruleB1, ruleB2, ruleB3, ruleL, ↓retK, ncall, Todo_eq, packV, eqTB, litB, litV, fitL, fit, veqL, veq, sbin, sun, nilB, cellsV, oneB, okC, vals, fillV, partsE, Int.reduceLE, Int.reduceLT, Int.reduceToNat, Nat.reduceAdd, Nat.reduceEqDiff, Nat.reduceLT, Nat.reduceLeDiff, Nat.reduceMul, Nat.reduceSub, reduceCtorEq, tbAKd0, Try.results7, g17, gr, g1, g2, g5, g11, g12, g13, g15, g18, gb, List.length_map]
      try simp
    · have hak := any_take ids R[i].id k hk
      cases hg : (ids.take k).any fun j => decide (j = R[i].id)
      · rw [hg] at g19 hak
        simp only [↓ruleA0, ↓ruleA1, ↓ruleA2, ruleB0, ruleB1, ruleB2, ruleB3, ruleL, ↓retK, ncall, Todo_eq, packV, eqTB, litB, litV, fitL, fit, veqL, veq, sbin, sun, nilB, cellsV, oneB, okC, vals, fillV, partsE, Int.reduceLE, Int.reduceLT, Int.reduceToNat, Nat.reduceAdd, Nat.reduceEqDiff, Nat.reduceLT, Nat.reduceLeDiff, Nat.reduceMul, Nat.reduceSub, reduceCtorEq, tbAKd0, Try.results7, g19, g17, gr, g1, g2, g5, g11, g12, g13, g15, g18, g20, gb, Int.ofNat_lt, hi, hk, List.length_map, getD_map]
        refine CallV_of _ (cmpID_ok ids[k] R[i].id).v ?_
        by_cases he : ids[k] = R[i].id
        · have hc : cmpID ids[k] R[i].id = 0 := cmpID_eq0.2 he
          simp only [↓ruleA0, ↓ruleA1, ↓ruleA2, ruleB0, ruleB1, ruleB2, ruleB3, ruleL, ↓retK, ncall, Todo_eq, packV, eqTB, litB, litV, fitL, fit, veqL, veq, sbin, sun, nilB, cellsV, oneB, okC, vals, fillV, partsE, Int.reduceLE, Int.reduceLT, Int.reduceToNat, Nat.reduceAdd, Nat.reduceEqDiff, Nat.reduceLT, Nat.reduceLeDiff, Nat.reduceMul, Nat.reduceSub, reduceCtorEq, tbAKd0, Try.results7, g19, g17, gr, g1, g2, g5, g11, g12, g13, g15, g18, g20, gb, hc, wrap_succ hk hi0]
          refine ⟨_, _, List.Sublist.refl _, List.Sublist.refl _, ?_⟩
          simp only [↓ruleA0, ↓ruleA1, ↓ruleA2, ruleB0, ruleB1, ruleB2, ruleB3, ruleL, ↓retK, ncall, Todo_eq, packV, eqTB, litB, litV, fitL, fit, veqL, veq, sbin, sun, nilB, cellsV, oneB, okC, vals, fillV, partsE, Int.reduceLE, Int.reduceLT, Int.reduceToNat, Nat.reduceAdd, Nat.reduceEqDiff, Nat.reduceLT, Nat.reduceLeDiff, Nat.reduceMul, Nat.reduceSub, reduceCtorEq, tbAKd0, Try.results7, g19, g17, gr, g1, g2, g5, g11, g12, g13, g15, g18, g20, gb, hc, wrap_succ hk hi0]
          rw [hak, decide_eq_true he]; simp
        · have hc : ¬ cmpID ids[k] R[i].id = 0 := fun h => he (cmpID_eq0.1 h)
          simp only [↓ruleA0, ↓ruleA1, ↓ruleA2, ruleB0, ruleB1, ruleB2, ruleB3, ruleL, ↓retK, ncall, Todo_eq, packV, eqTB, litB, litV, fitL, fit, veqL, veq, sbin, sun, nilB, cellsV, oneB, okC, vals, fillV, partsE, Int.reduceLE, Int.reduceLT, Int.reduceToNat, Nat.reduceAdd, Nat.reduceEqDiff, Nat.reduceLT, Nat.reduceLeDiff, Nat.reduceMul, Nat.reduceSub, reduceCtorEq, tbAKd0, Try.results7, g19, g17, gr, g1, g2, g5, g11, g12, g13, g15, g18, g20, gb, hc, wrap_succ hk hi0]
          refine ⟨_, _, List.Sublist.refl _, List.Sublist.refl _, ?_⟩
          simp only [↓ruleA0, ↓ruleA1, ↓ruleA2, ruleB0, ruleB1, ruleB2, ruleB3, ruleL, ↓retK, ncall, Todo_eq, packV, eqTB, litB, litV, fitL, fit, veqL, veq, sbin, sun, nilB, cellsV, oneB, okC, vals, fillV, partsE, Int.reduceLE, Int.reduceLT, Int.reduceToNat, Nat.reduceAdd, Nat.reduceEqDiff, Nat.reduceLT, Nat.reduceLeDiff, Nat.reduceMul, Nat.reduceSub, reduceCtorEq, tbAKd0, Try.results7, g19, g17, gr, g1, g2, g5, g11, g12, g13, g15, g18, g20, gb, hc, wrap_succ hk hi0]
          rw [hak, decide_eq_false he]; simp
      · rw [hg] at g19 hak
        simp only [↓ruleA0, ↓ruleA1, ↓ruleA2, ruleB0, ruleB1, ruleB2, ruleB3, ruleL, ↓retK, ncall, Todo_eq, packV, eqTB, litB, litV, fitL, fit, veqL, veq, sbin, sun, nilB, cellsV, oneB, okC, vals, fillV, partsE, Int.reduceLE, Int.reduceLT, Int.reduceToNat, Nat.reduceAdd, Nat.reduceEqDiff, Nat.reduceLT, Nat.reduceLeDiff, Nat.reduceMul, Nat.reduceSub, reduceCtorEq, tbAKd0, Try.results7, g19, g17, gr, g1, g2, g5, g11, g12, g13, g15, g18, g20, gb, Int.ofNat_lt, hi, hk, List.length_map, getD_map, wrap_succ hk hi0]
        refine ⟨_, _, List.Sublist.refl _, List.Sublist.refl _, ?_⟩
        simp only [↓ruleA0, ↓ruleA1, ↓ruleA2, ruleB0, ruleB1, ruleB2, ruleB3, ruleL, ↓retK, ncall, Todo_eq, packV, eqTB, litB, litV, fitL, fit, veqL, veq, sbin, sun, nilB, cellsV, oneB, okC, vals, fillV, partsE, Int.reduceLE, Int.reduceLT, Int.reduceToNat, Nat.reduceAdd, Nat.reduceEqDiff, Nat.reduceLT, Nat.reduceLeDiff, Nat.reduceMul, Nat.reduceSub, reduceCtorEq, tbAKd0, Try.results7, g19, g17, gr, g1, g2, g5, g11, g12, g13, g15, g18, g20, gb, wrap_succ hk hi0]
        rw [hak]; simp
    · rw [List.take_of_length_le (Nat.le_refl _), any_mem] at g19
      by_cases hin : R[i].id ∈ ids
      · rw [decide_eq_true hin] at g19
        have hq : ¬ keptR ids R[i] = true := by unfold keptR; rw [decide_eq_true hin]; decide
        simp only [↓ruleA0, ↓ruleA1, ↓ruleA2, ruleB0, ruleB1, ruleB2, ruleB3, ruleL, ↓retK, ncall, Todo_eq, packV, eqTB, litB, litV, fitL, fit, veqL, veq, sbin, sun, nilB, cellsV, oneB, okC, vals, fillV, partsE, Int.reduceLE, Int.reduceLT, Int.reduceToNat, Nat.reduceAdd, Nat.reduceEqDiff, Nat.reduceLT, Nat.reduceLeDiff, Nat.reduceMul, Nat.reduceSub, reduceCtorEq, tbAKd0, Try.results7, g19, g17, gr, g1, g2, g5, g11, g12, g13, g15, g18, g20, gb, Int.ofNat_lt, Nat.lt_irrefl, List.length_map, wrap_succ hi (Nat.le_trans hRl (by decide))]
        refine ⟨_, _, List.Sublist.refl _, List.Sublist.refl _, y, ?_⟩
        simp only [↓ruleA0, ↓ruleA1, ↓ruleA2, ruleB0, ruleB1, ruleB2, ruleB3, ruleL, ↓retK, ncall, Todo_eq, packV, eqTB, litB, litV, fitL, fit, veqL, veq, sbin, sun, nilB, cellsV, oneB, okC, vals, fillV, partsE, Int.reduceLE, Int.reduceLT, Int.reduceToNat, Nat.reduceAdd, Nat.reduceEqDiff, Nat.reduceLT, Nat.reduceLeDiff, Nat.reduceMul, Nat.reduceSub, reduceCtorEq, tbAKd0, Try.results7, g19, g17, gr, g1, g2, g5, g11, g12, g13, g15, g18, g20, gb, wrap_succ hi (Nat.le_trans hRl (by decide))]
        rw [htk, if_neg hq, List.append_nil]
      · rw [decide_eq_false hin] at g19
        have hq : keptR ids R[i] = true := by unfold keptR; rw [decide_eq_false hin]; decide
        simp only [↓ruleA0, ↓ruleA1, ↓ruleA2, ruleB0, ruleB1, ruleB2, ruleB3, ruleL, ↓retK, ncall, Todo_eq, packV, eqTB, litB, litV, fitL, fit, veqL, veq, sbin, sun, nilB, cellsV, oneB, okC, vals, fillV, partsE, Int.reduceLE, Int.reduceLT, Int.reduceToNat, Nat.reduceAdd, Nat.reduceEqDiff, Nat.reduceLT, Nat.reduceLeDiff, Nat.reduceMul, Nat.reduceSub, reduceCtorEq, tbAKd0, Try.results7, g19, g17, gr, g1, g2, g5, g11, g12, g13, g15, g18, g20, gb, Int.ofNat_lt, Nat.lt_irrefl, hi, List.length_map, getD_map]
        refine fun y2 => takeRF_2 ?_
        simp only [↓ruleA0, ↓ruleA1, ↓ruleA2, ruleB0, ruleB1, ruleB2, ruleB3, ruleL, ↓retK, ncall, Todo_eq, packV, eqTB, litB, litV, fitL, fit, veqL, veq, sbin, sun, nilB, cellsV, oneB, okC, vals, fillV, partsE, Int.reduceLE, Int.reduceLT, Int.reduceToNat, Nat.reduceAdd, Nat.reduceEqDiff, Nat.reduceLT, Nat.reduceLeDiff, Nat.reduceMul, Nat.reduceSub, reduceCtorEq, tbAKd0, Try.results7, g19, g17, gr, g1, g2, g5, g11, g12, g13, g15, g18, g20, gb, List.length_map, wrap_succ hi (Nat.le_trans hRl (by decide))]
        refine ⟨(by first | omega | (simp; omega)), fun y3 => ⟨_, [_], List.Sublist.refl _, List.Sublist.cons_cons _ (List.nil_sublist _), y3, ?_⟩⟩
        simp only [↓ruleA0, ↓ruleA1, ↓ruleA2, ruleB0, ruleB1, ruleB2, ruleB3, ruleL, ↓retK, ncall, Todo_eq, packV, eqTB, litB, litV, fitL, fit, veqL, veq, sbin, sun, nilB, cellsV, oneB, okC, vals, fillV, partsE, Int.reduceLE, Int.reduceLT, Int.reduceToNat, Nat.reduceAdd, Nat.reduceEqDiff, Nat.reduceLT, Nat.reduceLeDiff, Nat.reduceMul, Nat.reduceSub, reduceCtorEq, tbAKd0, Try.results7, g19, g17, gr, g1, g2, g5, g11, g12, g13, g15, g18, g20, gb, wrap_succ hi (Nat.le_trans hRl (by decide))]
        rw [htk, if_pos hq, List.map_append]
        rfl
  · rw [List.take_of_length_le (Nat.le_refl _)] at g17
    have hcode := adv_code (a := a) (p := purA a ids) rfl since
    have hA1 := advP_ok a since ha
    have hA2 := advP_ok (purA a ids) since hpf
    generalize hb : advA a since = pb at hcode hA1
    generalize hc : advA (purA a ids) since = pc at hcode hA2
    obtain ⟨b, e1⟩ := pb
    obtain ⟨c, e2⟩ := pc
    simp only at hcode
    subst hcode
    have hkf : (R.filter (keptR ids)).length ≤ big ∧ ∀ r ∈ R.filter (keptR ids), okF r := ⟨Nat.le_trans (List.length_filter_le _ _) hrf.1, fun r hr => hrf.2 r (List.mem_filter.1 hr).1⟩
    simp only [↓ruleA0, ↓ruleA1, ↓ruleA2, ruleB0, ruleB1, ruleB2, ruleB3, ruleL, ↓retK, ncall, Todo_eq, packV, eqTB, litB, litV, fitL, fit, veqL, veq, sbin, sun, nilB, cellsV, oneB, okC, vals, fillV, partsE, Int.reduceLE, Int.reduceLT, Int.reduceToNat, Nat.reduceAdd, Nat.reduceEqDiff, Nat.reduceLT, Nat.reduceLeDiff, Nat.reduceMul, Nat.reduceSub, reduceCtorEq, tbAKd0, Try.results7, g17, gr, g1, g2, g5, g11, g12, g13, g15, g18, gb, h12, Int.ofNat_lt, Nat.lt_irrefl, List.length_map]
    refine OkF_of _ hA1 ?_
    simp only [↓ruleA0, ↓ruleA1, ↓ruleA2, ruleB0, ruleB1, ruleB2, ruleB3, ruleL, ↓retK, ncall, Todo_eq, packV, eqTB, litB, litV, fitL, fit, veqL, veq, sbin, sun, nilB, cellsV, oneB, okC, vals, fillV, partsE, Int.reduceLE, Int.reduceLT, Int.reduceToNat, Nat.reduceAdd, Nat.reduceEqDiff, Nat.reduceLT, Nat.reduceLeDiff, Nat.reduceMul, Nat.reduceSub, reduceCtorEq, tbAKd0, Try.results7, g17, gr, g1, g2, g5, g11, g12, g13, g15, g18, gb, h12]
    refine fun b21 h21 => ?_; replace h21 := newb h21; try simp only [Nb] at h21
    simp only [↓ruleA0, ↓ruleA1, ↓ruleA2, ruleB0, ruleB1, ruleB2, ruleB3, ruleL, ↓retK, ncall, Todo_eq, packV, eqTB, litB, litV, fitL, fit, veqL, veq, sbin, sun, nilB, cellsV, oneB, okC, vals, fillV, partsE, Int.reduceLE, Int.reduceLT, Int.reduceToNat, Nat.reduceAdd, Nat.reduceEqDiff, Nat.reduceLT, Nat.reduceLeDiff, Nat.reduceMul, Nat.reduceSub, reduceCtorEq, tbAKd0, Try.results7, g17, gr, g1, g2, g5, g11, g12, g13, g15, g18, gb, h12, h21]
    refine OkF_of _ hA2 ?_
    simp only [↓ruleA0, ↓ruleA1, ↓ruleA2, ruleB0, ruleB1, ruleB2, ruleB3, ruleL, ↓retK, ncall, Todo_eq, packV, eqTB, litB, litV, fitL, fit, veqL, veq, sbin, sun, nilB, cellsV, oneB, okC, vals, fillV, partsE, Int.reduceLE, Int.reduceLT, Int.reduceToNat, Nat.reduceAdd, Nat.reduceEqDiff, Nat.reduceLT, Nat.reduceLeDiff, Nat.reduceMul, Nat.reduceSub, reduceCtorEq, tbAKd0, Try.results7, g17, gr, g1, g2, g5, g11, g12, g13, g15, g18, gb, h12, h21]
    refine fun b23 h23 => ?_; replace h23 := newb h23; try simp only [Nb] at h23
    simp only [↓ruleA0, ↓ruleA1, ↓ruleA2, ruleB0, ruleB1, ruleB2, ruleB3, ruleL, ↓retK, ncall, Todo_eq, packV, eqTB, litB, litV, fitL, fit, veqL, veq, sbin, sun, nilB, cellsV, oneB, okC, vals, fillV, partsE, Int.reduceLE, Int.reduceLT, Int.reduceToNat, Nat.reduceAdd, Nat.reduceEqDiff, Nat.reduceLT, Nat.reduceLeDiff, Nat.reduceMul, Nat.reduceSub, reduceCtorEq, tbAKd0, Try.results7, g17, gr, g1, g2, g5, g11, g12, g13, g15, g18, gb, h12, h21, h23]
    refine CallV_le (.cons (Le.refl _) (.cons (Le.list _ _ _) .nil)) _ (sameRows_self _ hkf.1 hkf.2) ?_
    have hbf : fitA b := by
      have : b = (advA a since).1 := by rw [hb]
      rw [this]
      unfold advA
      split
      · exact fit_arr0
      · split
        · exact fit_arr0
        · exact fit_of (ha.2.adv since)
    by_cases he : e2 = 0
    · subst he
      obtain ⟨p1, p2, hbe⟩ := adv_zero hb
      obtain ⟨_, _, hce⟩ := adv_zero hc
      have hpc : purA b ids = c := by
        rw [hbe, hce]
        exact purge_adv_eq ha ids since
      simp only [↓ruleA0, ↓ruleA1, ↓ruleA2, ruleB0, ruleB1, ruleB2, ruleB3, ruleL, ↓retK, ncall, Todo_eq, packV, eqTB, litB, litV, fitL, fit, veqL, veq, sbin, sun, nilB, cellsV, oneB, okC, vals, fillV, partsE, Int.reduceLE, Int.reduceLT, Int.reduceToNat, Nat.reduceAdd, Nat.reduceEqDiff, Nat.reduceLT, Nat.reduceLeDiff, Nat.reduceMul, Nat.reduceSub, reduceCtorEq, tbAKd0, Try.results7, g17, gr, g1, g2, g5, g11, g12, g13, g15, g18, gb, h12, h21, h23]
      refine CallV_of _ (purgeP_ok b ids hbf hi0).v ?_
      rw [hpc]
      simp only [↓ruleA0, ↓ruleA1, ↓ruleA2, ruleB0, ruleB1, ruleB2, ruleB3, ruleL, ↓retK, ncall, Todo_eq, packV, eqTB, litB, litV, fitL, fit, veqL, veq, sbin, sun, nilB, cellsV, oneB, okC, vals, fillV, partsE, Int.reduceLE, Int.reduceLT, Int.reduceToNat, Nat.reduceAdd, Nat.reduceEqDiff, Nat.reduceLT, Nat.reduceLeDiff, Nat.reduceMul, Nat.reduceSub, reduceCtorEq, tbAKd0, Try.results7, g17, gr, g1, g2, g5, g11, g12, g13, g15, g18, gb, h12, h21, h23]
      refine CallV_of _ (same_self c (hpc ▸ purA_fit hbf ids)).v ?_
      simp only [↓ruleA0, ↓ruleA1, ↓ruleA2, ruleB0, ruleB1, ruleB2, ruleB3, ruleL, ↓retK, ncall, Todo_eq, packV, eqTB, litB, litV, fitL, fit, veqL, veq, sbin, sun, nilB, cellsV, oneB, okC, vals, fillV, partsE, Int.reduceLE, Int.reduceLT, Int.reduceToNat, Nat.reduceAdd, Nat.reduceEqDiff, Nat.reduceLT, Nat.reduceLeDiff, Nat.reduceMul, Nat.reduceSub, reduceCtorEq, tbAKd0, Try.results7, g17, gr, g1, g2, g5, g11, g12, g13, g15, g18, gb, h12, h21, h23]
      exact ret_done rfl
    · simp only [↓ruleA0, ↓ruleA1, ↓ruleA2, ruleB0, ruleB1, ruleB2, ruleB3, ruleL, ↓retK, ncall, Todo_eq, packV, eqTB, litB, litV, fitL, fit, veqL, veq, sbin, sun, nilB, cellsV, oneB, okC, vals, fillV, partsE, Int.reduceLE, Int.reduceLT, Int.reduceToNat, Nat.reduceAdd, Nat.reduceEqDiff, Nat.reduceLT, Nat.reduceLeDiff, Nat.reduceMul, Nat.reduceSub, reduceCtorEq, tbAKd0, Try.results7, g17, gr, g1, g2, g5, g11, g12, g13, g15, g18, gb, h12, h21, h23, he]
      exact ret_done rfl
end Go.Proofs.Ytopfanlkbepemaa

