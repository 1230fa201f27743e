/- Merged out of my texts AD AFa AFb AFc AFd AGa AP APb. -/
import Derived.Test.YtopfanlkbepemaaVR
import Derived.Test.YtopfanlkbepemaaVS
import Derived.Test.YtopfanlkbepemaaKTy
import Derived.Lib.Bytealg
import Derived.Test.YtopfanlkbepemaaVT
import Derived.Shelf.SlSortCmp.WholeK
set_option linter.unusedSimpArgs false
set_option linter.unusedVariables false
/- Arrangements: the data, and how they stand as abstract values. -/
namespace Go.Ar
open Go.VL

abbrev Str := ByteArray
abbrev vint (n : Int) : V := .lit (.int .i64 n)
abbrev vbool (b : Bool) : V := .lit (.bool b)
abbrev vstr (s : Str) : V := .lit (.string s)
abbrev vints (xs : List Int) : V := .list none 1 (xs.map fun x => [vint x])
abbrev vstrs (xs : List Str) : V := .list none 1 (xs.map fun x => [vstr x])
abbrev ptr (b : Nat) : V := .lit (.pointer (some ⟨b, 0, none⟩))
abbrev nilS : V := .lit (.slice none 0 0)

structure FID where
  src : Str
  seq : Int
  deriving DecidableEq
structure Val where
  kind : Int
  n : Int
  s : Str
  deriving DecidableEq
structure Rw where
  id : FID
  table : Str
  key : Str
  event : Int
  fields : List Val
  no : Int
  tick : Int
  deriving DecidableEq
structure Dlt where
  row : Rw
  tick : Int
  n : Int
  deriving DecidableEq
structure Grp where
  key : Str
  ds : List Dlt
  deriving DecidableEq
structure Arr where
  since : Int
  groups : List Grp
  deriving DecidableEq

abbrev cFID (i : FID) : List V := [vstr i.src, vint i.seq]
abbrev cVal (v : Val) : List V := [vint v.kind, vint v.n, vstr v.s]
abbrev vVals (l : List Val) : V := .list none 3 (l.map cVal)
abbrev cRow (r : Rw) : List V := [vstr r.id.src, vint r.id.seq, vstr r.table, vstr r.key, vint r.event, vVals r.fields, vint r.no, vint r.tick]
abbrev cDlt (d : Dlt) : List V := [vstr d.row.id.src, vint d.row.id.seq, vstr d.row.table, vstr d.row.key, vint d.row.event, vVals d.row.fields, vint d.row.no, vint d.row.tick, vint d.tick, vint d.n]
abbrev vDlts (l : List Dlt) : V := .list none 10 (l.map cDlt)
abbrev vRows (l : List Rw) : V := .list none 8 (l.map cRow)
abbrev vFIDs (l : List FID) : V := .list none 2 (l.map cFID)
abbrev cGrp (g : Grp) : List V := [vstr g.key, vDlts g.ds]
abbrev vGrps (l : List Grp) : V := .list none 2 (l.map cGrp)
abbrev cArr (a : Arr) : List V := [vint a.since, vGrps a.groups]
abbrev vArr (a : Arr) : V := .agg (cArr a)

/-! ### Orders -/
def less (a b : Str) : Bool := Op.bytesLess a.data.toList b.data.toList
def cmpI (a b : Int) : Int := if a < b then -1 else if b < a then 1 else 0
def cmpS (a b : Str) : Int := if less a b = true then -1 else if (less a b || decide (a = b)) = true then 0 else 1
def orL : List Int → Int
  | [] => 0
  | x :: r => if x = 0 then orL r else x
def cmpID (a b : FID) : Int := if a = b then 0 else orL [cmpS a.src b.src, cmpI a.seq b.seq]
def cmpRow (a b : Rw) : Int := orL [cmpI a.event b.event, cmpID a.id b.id]
def cmpVal (a b : Val) : Int := orL [cmpI a.kind b.kind, cmpI a.n b.n, cmpS a.s b.s]
def cmpL : List Val → List Val → Int
  | [], [] => 0
  | [], _ :: _ => -1
  | _ :: _, [] => 1
  | a :: l, b :: m => if cmpVal a b = 0 then cmpL l m else cmpVal a b
def cmpFull (a b : Rw) : Int := orL [cmpRow a b, cmpI a.no b.no, cmpI a.tick b.tick, cmpS a.table b.table, cmpS a.key b.key, cmpL a.fields b.fields]
def cmpD (a b : Dlt) : Int := orL [cmpI a.tick b.tick, cmpFull a.row b.row]

theorem bytesLess_irrefl : ∀ l : List UInt8, Op.bytesLess l l = false
  | [] => rfl
  | x :: l => by simp [Op.bytesLess, bytesLess_irrefl l]
theorem less_irrefl (a : Str) : less a a = false := bytesLess_irrefl _
theorem less_ne {a b : Str} (h : less a b = true) : a ≠ b := fun e => by subst e; rw [less_irrefl] at h; cases h
theorem cmpS_lt {a b : Str} (h : less a b = true) : cmpS a b = -1 := by simp [cmpS, h]
theorem cmpS_refl (a : Str) : cmpS a a = 0 := by simp [cmpS, less_irrefl]
theorem cmpS_gt {a b : Str} (h : less a b = false) (hn : ¬ a = b) : cmpS a b = 1 := by simp [cmpS, h, hn]
theorem cmpS_eq0 {a b : Str} : cmpS a b = 0 ↔ a = b := by
  constructor
  · intro h
    cases hl : less a b
    · by_cases he : a = b
      · exact he
      · rw [cmpS_gt hl he] at h; cases h
    · rw [cmpS_lt hl] at h; cases h
  · rintro rfl; exact cmpS_refl a
theorem cmpI_eq0 {a b : Int} : cmpI a b = 0 ↔ a = b := by
  unfold cmpI
  constructor
  · intro h
    split at h
    · cases h
    · split at h
      · cases h
      · omega
  · rintro rfl; simp
theorem cmpID_eq0 {a b : FID} : cmpID a b = 0 ↔ a = b := by
  unfold cmpID
  constructor
  · intro h
    split at h
    · assumption
    · simp only [orL] at h
      cases a; cases b
      split at h
      · rename_i h1
        split at h
        · rename_i h2
          have q1 := cmpS_eq0.1 h1
          have q2 := cmpI_eq0.1 h2
          simp only [] at q1 q2
          rw [q1, q2]
        · contradiction
      · contradiction
  · rintro rfl; simp
theorem cmpID_src {a b : FID} (h : ¬ a.src = b.src) : cmpID a b = cmpS a.src b.src := by
  have : ¬ a = b := fun e => h (by rw [e])
  simp [cmpID, this, orL, cmpS_eq0, h]
theorem cmpID_seq {a b : FID} (h : a.src = b.src) : cmpID a b = cmpI a.seq b.seq := by
  by_cases e : a = b
  · subst e; simp [cmpID, cmpI]
  · have : ¬ a.seq = b.seq := fun e' => e (by cases a; cases b; simp_all)
    simp [cmpID, e, orL, h, cmpS_refl, cmpI_eq0, this]
/-! ### Small words for the walks -/
theorem wrap_id {n : Int} (h : -9223372036854775808 ≤ n) (h' : n < 9223372036854775808) : IntKind.i64.wrap n = n := IntWalk.i64_in n ⟨h, by omega⟩
theorem wrap_succ {i N : Nat} (h : i < N) (hN : N ≤ 9223372036854775807) : IntKind.i64.wrap ((i : Int) + 1) = ((i + 1 : Nat) : Int) := by
  rw [wrap_id (by omega) (by omega)]; rfl
theorem ret_done {v x : V} {bs : List (Nat × B)} {rs : List VL.Row} (h : v = x) : ∃ w bs' rs', Le v w ∧ bs'.Sublist bs ∧ rs'.Sublist rs ∧ w = x ∧ bs' = [] ∧ rs' = [] :=
  ⟨v, [], [], Le.refl _, List.nil_sublist _, List.nil_sublist _, h, rfl, rfl⟩
theorem ret_le {v x : V} {bs : List (Nat × B)} {rs : List VL.Row} (h : Le v x) : ∃ w bs' rs', Le v w ∧ bs'.Sublist bs ∧ rs'.Sublist rs ∧ w = x ∧ bs' = [] ∧ rs' = [] :=
  ⟨x, [], [], h, List.nil_sublist _, List.nil_sublist _, rfl, rfl, rfl⟩
theorem le_list {own : Option Value} {k : Nat} {es es' : List (List V)} (h : es = es') : Le (.list own k es) (.list none k es') := h ▸ Le.list _ _ _
theorem getD_map {α : Type} (f : α → List V) (l : List α) (i : Nat) (h : i < l.length) : (l.map f).getD i [] = f l[i] := by
  simp [List.getD, h]
theorem get_map {α : Type} (f : α → List V) (l : List α) (i : Nat) (h : i < l.length) : (l.map f)[i]? = some (f l[i]) := by
  simp [h]
end Go.Ar

/- Arrangements: contracts, part a: comparisons. -/
set_option linter.unusedSimpArgs false
set_option maxRecDepth 100000
namespace Go.Proofs.Ytopfanlkbepemaa
open Go.VL Go.Ar Go.Proofs.Ytopfanlkbepemaa

set_option linter.defProp false in
def tbAFa0 := (And.intro (And.intro (And.intro Ty.sz4 Ty.by4) (And.intro Ty.ag4 (And.intro Ty.zr4 Ty.un4))) (And.intro (And.intro Ty.sz9 Ty.by9) (And.intro Ty.ag9 (And.intro Ty.zr9 Ty.un9))))
set_option maxHeartbeats 400000 in
theorem nanS_ok (s : Str) : OkP Try.prog 69 [vstr s] (vbool false) := by
  refine Ok.of_ex Ty.mixed Try.func69 rfl (by simp [Try.ntmps69]) (by kernel_rfl) fun F w0 I0 => ?_
  simp only [↓ruleA0, ↓ruleA1, ↓ruleA2, ruleB0, ruleB1, ruleB2, ruleB3, ruleL, ↓retK, ncall, Todo_eq, packV, eqTB, litB, litV, fitL, fit, veqL, veq, sbin, sun, nilB, cellsV, oneB, okC, vals, fillV, partsE, Int.reduceLE, Int.reduceLT, Int.reduceToNat, Nat.reduceAdd, Nat.reduceEqDiff, Nat.reduceLT, Nat.reduceLeDiff, Nat.reduceMul, Nat.reduceSub, reduceCtorEq, tbAFa0, Try.results69]
  exact ret_done rfl
set_option linter.defProp false in
def tbAFa1 := (And.intro (And.intro (And.intro Ty.sz3 Ty.by3) (And.intro Ty.ag3 (And.intro Ty.zr3 Ty.un3))) (And.intro (And.intro Ty.sz4 Ty.by4) (And.intro Ty.ag4 (And.intro Ty.zr4 Ty.un4))))
theorem nanI_ok (s : Int) : OkP Try.prog 70 [vint s] (vbool false) := by
  refine Ok.of_ex Ty.mixed Try.func70 rfl (by simp [Try.ntmps70]) (by kernel_rfl) fun F w0 I0 => ?_
  simp only [↓ruleA0, ↓ruleA1, ↓ruleA2, ruleB0, ruleB1, ruleB2, ruleB3, ruleL, ↓retK, ncall, Todo_eq, packV, eqTB, litB, litV, fitL, fit, veqL, veq, sbin, sun, nilB, cellsV, oneB, okC, vals, fillV, partsE, Int.reduceLE, Int.reduceLT, Int.reduceToNat, Nat.reduceAdd, Nat.reduceEqDiff, Nat.reduceLT, Nat.reduceLeDiff, Nat.reduceMul, Nat.reduceSub, reduceCtorEq, tbAFa1, Try.results70]
  exact ret_done rfl
set_option linter.defProp false in
def tbAFa2 := (And.intro (And.intro (And.intro Ty.sz3 Ty.by3) (And.intro Ty.ag3 (And.intro Ty.zr3 Ty.un3))) (And.intro (And.intro Ty.sz4 (And.intro Ty.by4 Ty.ag4)) (And.intro Ty.zr4 (And.intro Ty.un4 Ty.cb70))))
theorem cmpI_ok (a b : Int) : OkP Try.prog 51 [vint a, vint b] (vint (cmpI a b)) := by
  refine Ok.of_ex Ty.mixed Try.func51 rfl (by simp [Try.ntmps51]) (by kernel_rfl) fun F w0 I0 => ?_
  simp only [↓ruleA0, ↓ruleA1, ↓ruleA2, ruleB0, ruleB1, ruleB2, ruleB3, ruleL, ↓retK, ncall, Todo_eq, packV, eqTB, litB, litV, fitL, fit, veqL, veq, sbin, sun, nilB, cellsV, oneB, okC, vals, fillV, partsE, Int.reduceLE, Int.reduceLT, Int.reduceToNat, Nat.reduceAdd, Nat.reduceEqDiff, Nat.reduceLT, Nat.reduceLeDiff, Nat.reduceMul, Nat.reduceSub, reduceCtorEq, tbAFa2, Try.results51]
  refine OkF_of _ (nanI_ok a) ?_
  simp only [↓ruleA0, ↓ruleA1, ↓ruleA2, ruleB0, ruleB1, ruleB2, ruleB3, ruleL, ↓retK, ncall, Todo_eq, packV, eqTB, litB, litV, fitL, fit, veqL, veq, sbin, sun, nilB, cellsV, oneB, okC, vals, fillV, partsE, Int.reduceLE, Int.reduceLT, Int.reduceToNat, Nat.reduceAdd, Nat.reduceEqDiff, Nat.reduceLT, Nat.reduceLeDiff, Nat.reduceMul, Nat.reduceSub, reduceCtorEq, tbAFa2, Try.results51]
  refine OkF_of _ (nanI_ok b) ?_
  by_cases h1 : a < b
  · simp only [↓ruleA0, ↓ruleA1, ↓ruleA2, ruleB0, ruleB1, ruleB2, ruleB3, ruleL, ↓retK, ncall, Todo_eq, packV, eqTB, litB, litV, fitL, fit, veqL, veq, sbin, sun, nilB, cellsV, oneB, okC, vals, fillV, partsE, Int.reduceLE, Int.reduceLT, Int.reduceToNat, Nat.reduceAdd, Nat.reduceEqDiff, Nat.reduceLT, Nat.reduceLeDiff, Nat.reduceMul, Nat.reduceSub, reduceCtorEq, tbAFa2, Try.results51, h1]
    exact ret_done (by simp [cmpI, h1])
  · by_cases h2 : b < a
    · simp only [↓ruleA0, ↓ruleA1, ↓ruleA2, ruleB0, ruleB1, ruleB2, ruleB3, ruleL, ↓retK, ncall, Todo_eq, packV, eqTB, litB, litV, fitL, fit, veqL, veq, sbin, sun, nilB, cellsV, oneB, okC, vals, fillV, partsE, Int.reduceLE, Int.reduceLT, Int.reduceToNat, Nat.reduceAdd, Nat.reduceEqDiff, Nat.reduceLT, Nat.reduceLeDiff, Nat.reduceMul, Nat.reduceSub, reduceCtorEq, tbAFa2, Try.results51, h1, h2]
      exact ret_done (by simp [cmpI, h1, h2])
    · simp only [↓ruleA0, ↓ruleA1, ↓ruleA2, ruleB0, ruleB1, ruleB2, ruleB3, ruleL, ↓retK, ncall, Todo_eq, packV, eqTB, litB, litV, fitL, fit, veqL, veq, sbin, sun, nilB, cellsV, oneB, okC, vals, fillV, partsE, Int.reduceLE, Int.reduceLT, Int.reduceToNat, Nat.reduceAdd, Nat.reduceEqDiff, Nat.reduceLT, Nat.reduceLeDiff, Nat.reduceMul, Nat.reduceSub, reduceCtorEq, tbAFa2, Try.results51, h1, h2]
      exact ret_done (by simp [cmpI, h1, h2])
set_option linter.defProp false in
def tbAFa3 := (And.intro (And.intro (And.intro (And.intro Ty.sz3 Ty.by3) (And.intro Ty.ag3 Ty.zr3)) (And.intro (And.intro Ty.un3 Ty.sz4) (And.intro Ty.by4 Ty.ag4))) (And.intro (And.intro (And.intro Ty.zr4 Ty.un4) (And.intro Ty.sz9 Ty.by9)) (And.intro (And.intro Ty.ag9 Ty.zr9) (And.intro Ty.un9 Ty.cb69))))
theorem cmpS_ok (a b : Str) : OkP Try.prog 50 [vstr a, vstr b] (vint (cmpS a b)) := by
  refine Ok.of_ex Ty.mixed Try.func50 rfl (by simp [Try.ntmps50]) (by kernel_rfl) fun F w0 I0 => ?_
  simp only [↓ruleA0, ↓ruleA1, ↓ruleA2, ruleB0, ruleB1, ruleB2, ruleB3, ruleL, ↓retK, ncall, Todo_eq, packV, eqTB, litB, litV, fitL, fit, veqL, veq, sbin, sun, nilB, cellsV, oneB, okC, vals, fillV, partsE, Int.reduceLE, Int.reduceLT, Int.reduceToNat, Nat.reduceAdd, Nat.reduceEqDiff, Nat.reduceLT, Nat.reduceLeDiff, Nat.reduceMul, Nat.reduceSub, reduceCtorEq, tbAFa3, Try.results50]
  refine OkF_of _ (nanS_ok a) ?_
  simp only [↓ruleA0, ↓ruleA1, ↓ruleA2, ruleB0, ruleB1, ruleB2, ruleB3, ruleL, ↓retK, ncall, Todo_eq, packV, eqTB, litB, litV, fitL, fit, veqL, veq, sbin, sun, nilB, cellsV, oneB, okC, vals, fillV, partsE, Int.reduceLE, Int.reduceLT, Int.reduceToNat, Nat.reduceAdd, Nat.reduceEqDiff, Nat.reduceLT, Nat.reduceLeDiff, Nat.reduceMul, Nat.reduceSub, reduceCtorEq, tbAFa3, Try.results50]
  refine OkF_of _ (nanS_ok b) ?_
  cases h1 : Op.bytesLess a.data.toList b.data.toList
  · by_cases h2 : a = b
    · subst h2
      simp only [↓ruleA0, ↓ruleA1, ↓ruleA2, ruleB0, ruleB1, ruleB2, ruleB3, ruleL, ↓retK, ncall, Todo_eq, packV, eqTB, litB, litV, fitL, fit, veqL, veq, sbin, sun, nilB, cellsV, oneB, okC, vals, fillV, partsE, Int.reduceLE, Int.reduceLT, Int.reduceToNat, Nat.reduceAdd, Nat.reduceEqDiff, Nat.reduceLT, Nat.reduceLeDiff, Nat.reduceMul, Nat.reduceSub, reduceCtorEq, tbAFa3, Try.results50, h1]
      exact ret_done (by simp [cmpS, less, h1])
    · simp only [↓ruleA0, ↓ruleA1, ↓ruleA2, ruleB0, ruleB1, ruleB2, ruleB3, ruleL, ↓retK, ncall, Todo_eq, packV, eqTB, litB, litV, fitL, fit, veqL, veq, sbin, sun, nilB, cellsV, oneB, okC, vals, fillV, partsE, Int.reduceLE, Int.reduceLT, Int.reduceToNat, Nat.reduceAdd, Nat.reduceEqDiff, Nat.reduceLT, Nat.reduceLeDiff, Nat.reduceMul, Nat.reduceSub, reduceCtorEq, tbAFa3, Try.results50, h1, h2]
      exact ret_done (by simp [cmpS, less, h1, h2])
  · simp only [↓ruleA0, ↓ruleA1, ↓ruleA2, ruleB0, ruleB1, ruleB2, ruleB3, ruleL, ↓retK, ncall, Todo_eq, packV, eqTB, litB, litV, fitL, fit, veqL, veq, sbin, sun, nilB, cellsV, oneB, okC, vals, fillV, partsE, Int.reduceLE, Int.reduceLT, Int.reduceToNat, Nat.reduceAdd, Nat.reduceEqDiff, Nat.reduceLT, Nat.reduceLeDiff, Nat.reduceMul, Nat.reduceSub, reduceCtorEq, tbAFa3, Try.results50, h1]
    exact ret_done (by simp [cmpS, less, h1])
set_option linter.defProp false in
def tbAFa4 := (And.intro (And.intro (And.intro Ty.sz3 (And.intro Ty.by3 Ty.ag3)) (And.intro (And.intro Ty.zr3 Ty.un3) (And.intro Ty.sz4 Ty.by4))) (And.intro (And.intro (And.intro Ty.ag4 Ty.zr4) (And.intro Ty.un4 Ty.sz98)) (And.intro (And.intro Ty.by98 Ty.ag98) (And.intro Ty.zr98 Ty.un98))))
theorem or_ok (l : List Int) (hl : l.length ≤ 9223372036854775807) : OkP Try.prog 49 [vints l] (vint (orL l)) := by
  refine Ok.of_ex Ty.mixed Try.func49 rfl (by simp [Try.ntmps49]) (by kernel_rfl) fun F w0 I0 => ?_
  simp only [↓ruleA0, ↓ruleA1, ↓ruleA2, ruleB0, ruleB1, ruleB2, ruleB3, ruleL, ↓retK, ncall, Todo_eq, packV, eqTB, litB, litV, fitL, fit, veqL, veq, sbin, sun, nilB, cellsV, oneB, okC, vals, fillV, partsE, Int.reduceLE, Int.reduceLT, Int.reduceToNat, Nat.reduceAdd, Nat.reduceEqDiff, Nat.reduceLT, Nat.reduceLeDiff, Nat.reduceMul, Nat.reduceSub, reduceCtorEq, tbAFa4, Try.results49, List.length_map]
  refine EX_for Ty.mixed (by kernel_rfl) l.length (fun i S => S.σ 6 = vints l ∧ S.σ 7 = vint l.length ∧ S.σ 8 = vint i ∧ S.σ 3 = vint 0 ∧ S.boxes = [] ∧ orL l = orL (l.drop i)) ⟨0, ?_⟩ (fun i S hi ⟨g6, g7, g8, g3, gb, ho⟩ => ?_) (fun S ⟨g6, g7, g8, g3, gb, ho⟩ => ?_)
  · simp only [↓ruleA0, ↓ruleA1, ↓ruleA2, ruleB0, ruleB1, ruleB2, ruleB3, ruleL, ↓retK, ncall, Todo_eq, packV, eqTB, litB, litV, fitL, fit, veqL, veq, sbin, sun, nilB, cellsV, oneB, okC, vals, fillV, partsE, Int.reduceLE, Int.reduceLT, Int.reduceToNat, Nat.reduceAdd, Nat.reduceEqDiff, Nat.reduceLT, Nat.reduceLeDiff, Nat.reduceMul, Nat.reduceSub, reduceCtorEq, tbAFa4, Try.results49]
  · have hd : l.drop i = l[i] :: l.drop (i + 1) := List.drop_eq_getElem_cons hi
    rw [hd, orL] at ho
    by_cases h0 : l[i] = 0
    · simp only [↓ruleA0, ↓ruleA1, ↓ruleA2, ruleB0, ruleB1, ruleB2, ruleB3, ruleL, ↓retK, ncall, Todo_eq, packV, eqTB, litB, litV, fitL, fit, veqL, veq, sbin, sun, nilB, cellsV, oneB, okC, vals, fillV, partsE, Int.reduceLE, Int.reduceLT, Int.reduceToNat, Nat.reduceAdd, Nat.reduceEqDiff, Nat.reduceLT, Nat.reduceLeDiff, Nat.reduceMul, Nat.reduceSub, reduceCtorEq, tbAFa4, Try.results49, g6, g7, g8, g3, gb, Int.ofNat_lt, hi, List.length_map, getD_map, h0, wrap_succ hi hl]
      refine ⟨0, ?_⟩
      simpa [h0] using ho
    · simp only [↓ruleA0, ↓ruleA1, ↓ruleA2, ruleB0, ruleB1, ruleB2, ruleB3, ruleL, ↓retK, ncall, Todo_eq, packV, eqTB, litB, litV, fitL, fit, veqL, veq, sbin, sun, nilB, cellsV, oneB, okC, vals, fillV, partsE, Int.reduceLE, Int.reduceLT, Int.reduceToNat, Nat.reduceAdd, Nat.reduceEqDiff, Nat.reduceLT, Nat.reduceLeDiff, Nat.reduceMul, Nat.reduceSub, reduceCtorEq, tbAFa4, Try.results49, g6, g7, g8, g3, gb, Int.ofNat_lt, hi, List.length_map, getD_map, h0]
      exact ret_done (by rw [ho, if_neg h0])
  · simp only [↓ruleA0, ↓ruleA1, ↓ruleA2, ruleB0, ruleB1, ruleB2, ruleB3, ruleL, ↓retK, ncall, Todo_eq, packV, eqTB, litB, litV, fitL, fit, veqL, veq, sbin, sun, nilB, cellsV, oneB, okC, vals, fillV, partsE, Int.reduceLE, Int.reduceLT, Int.reduceToNat, Nat.reduceAdd, Nat.reduceEqDiff, Nat.reduceLT, Nat.reduceLeDiff, Nat.reduceMul, Nat.reduceSub, reduceCtorEq, tbAFa4, Try.results49, g6, g7, g8, g3, gb, Int.ofNat_lt, Nat.lt_irrefl]
    exact ret_done (by rw [ho]; simp [orL])
end Go.Proofs.Ytopfanlkbepemaa

/- Arrangements: contracts, part b: comparisons of identifiers, values, rows. -/
set_option linter.unusedSimpArgs false
set_option maxRecDepth 100000
-- @call 88
namespace Go.Proofs.Ytopfanlkbepemaa
open Go.VL Go.Ar Go.Proofs.Ytopfanlkbepemaa

theorem compareBytes_eq : ∀ a b : List UInt8, Go.Lib.compareBytes a b = if Op.bytesLess a b = true then -1 else if (Op.bytesLess a b || decide (a = b)) = true then 0 else 1 := by
  intro a
  induction a with
  | nil => intro b; cases b <;> simp [Go.Lib.compareBytes, Op.bytesLess]
  | cons x a ih =>
    intro b
    cases b with
    | nil => simp [Go.Lib.compareBytes, Op.bytesLess]
    | cons y b =>
      simp only [Go.Lib.compareBytes, Op.bytesLess]
      have := ih b
      by_cases h1 : x < y
      · simp [h1]
      · by_cases h2 : x = y
        · subst h2; simp [h1, this]
        · have h3 : y < x := by
            rw [UInt8.lt_iff_toNat_lt] at h1 ⊢
            have : x.toNat ≠ y.toNat := fun e => h2 (UInt8.toNat_inj.1 e)
            omega
          simp [h1, h2, h3]

theorem strCmp_ext (S : St) (a b : Str) : ExtV Try.prog S 113 [vstr a, vstr b] (vint (cmpS a b)) := by
  intro w I xs _ hr
  have : xs = [.string a, .string b] := by
    match xs, hr with
    | [x, y], hr => simp only [V.reps, V.rep, and_true] at hr; rw [hr.1, hr.2]
    | [], hr => simp [V.reps] at hr
    | [_], hr => simp [V.reps] at hr
    | _ :: _ :: _ :: _, hr => simp [V.reps] at hr
  subst this
  refine ⟨.int .i64 (cmpS a b), w, ?_, .inl rfl, by simp only [V.rep]⟩
  rw [run_callFunc_extern Try.func113 (by kernel_rfl) (by kernel_rfl) (by kernel_rfl) (e := Extern.BytealgCompare.compare) (by kernel_rfl)]
  rw [Go.Lib.run_compareString (P := Try.prog) a b w]
  simp only [Result.andThen, compareBytes_eq, cmpS, less]
  have : decide (a.data.toList = b.data.toList) = decide (a = b) := by
    rw [Bool.eq_iff_iff, decide_eq_true_eq, decide_eq_true_eq]
    exact ⟨fun h => ByteArray.ext (Array.ext' h), fun h => by rw [h]⟩
  rw [this]
  congr 4
set_option linter.defProp false in
def tbAFb0 := (And.intro (And.intro (And.intro Ty.sz3 (And.intro Ty.by3 Ty.ag3)) (And.intro Ty.zr3 (And.intro Ty.un3 Ty.sz9))) (And.intro (And.intro Ty.by9 (And.intro Ty.ag9 Ty.zr9)) (And.intro Ty.un9 (And.intro Ty.cb88 Ty.cb113))))
theorem cmpString_ok (a b : Str) : OkP Try.prog 105 [vstr a, vstr b] (vint (cmpS a b)) := by
  refine Ok.of_ex Ty.mixed Try.func105 rfl (by simp [Try.ntmps105]) (by kernel_rfl) fun F w0 I0 => ?_
  simp only [↓ruleA0, ↓ruleA1, ↓ruleA2, ruleB0, ruleB1, ruleB2, ruleB3, ruleL, ↓retK, ncall, Todo_eq, packV, eqTB, litB, litV, fitL, fit, veqL, veq, sbin, sun, nilB, cellsV, oneB, okC, vals, fillV, partsE, Int.reduceLE, Int.reduceLT, Int.reduceToNat, Nat.reduceAdd, Nat.reduceEqDiff, Nat.reduceLT, Nat.reduceLeDiff, Nat.reduceMul, Nat.reduceSub, reduceCtorEq, tbAFb0, Try.results105]
  refine ExtF_of _ (strCmp_ext _ a b) ?_
  simp only [↓ruleA0, ↓ruleA1, ↓ruleA2, ruleB0, ruleB1, ruleB2, ruleB3, ruleL, ↓retK, ncall, Todo_eq, packV, eqTB, litB, litV, fitL, fit, veqL, veq, sbin, sun, nilB, cellsV, oneB, okC, vals, fillV, partsE, Int.reduceLE, Int.reduceLT, Int.reduceToNat, Nat.reduceAdd, Nat.reduceEqDiff, Nat.reduceLT, Nat.reduceLeDiff, Nat.reduceMul, Nat.reduceSub, reduceCtorEq, tbAFb0, Try.results105]
  exact ret_done rfl
set_option linter.defProp false in
def tbAFb1 := (And.intro (And.intro (And.intro Ty.sz3 (And.intro Ty.by3 Ty.ag3)) (And.intro Ty.zr3 (And.intro Ty.un3 Ty.sz9))) (And.intro (And.intro Ty.by9 (And.intro Ty.ag9 Ty.zr9)) (And.intro Ty.un9 (And.intro Ty.cb88 Ty.cb105))))
theorem stringsCompare_ok (a b : Str) : OkP Try.prog 86 [vstr a, vstr b] (vint (cmpS a b)) := by
  refine Ok.of_ex Ty.mixed Try.func86 rfl (by simp [Try.ntmps86]) (by kernel_rfl) fun F w0 I0 => ?_
  simp only [↓ruleA0, ↓ruleA1, ↓ruleA2, ruleB0, ruleB1, ruleB2, ruleB3, ruleL, ↓retK, ncall, Todo_eq, packV, eqTB, litB, litV, fitL, fit, veqL, veq, sbin, sun, nilB, cellsV, oneB, okC, vals, fillV, partsE, Int.reduceLE, Int.reduceLT, Int.reduceToNat, Nat.reduceAdd, Nat.reduceEqDiff, Nat.reduceLT, Nat.reduceLeDiff, Nat.reduceMul, Nat.reduceSub, reduceCtorEq, tbAFb1, Try.results86]
  refine OkF_of _ (cmpString_ok a b) ?_
  simp only [↓ruleA0, ↓ruleA1, ↓ruleA2, ruleB0, ruleB1, ruleB2, ruleB3, ruleL, ↓retK, ncall, Todo_eq, packV, eqTB, litB, litV, fitL, fit, veqL, veq, sbin, sun, nilB, cellsV, oneB, okC, vals, fillV, partsE, Int.reduceLE, Int.reduceLT, Int.reduceToNat, Nat.reduceAdd, Nat.reduceEqDiff, Nat.reduceLT, Nat.reduceLeDiff, Nat.reduceMul, Nat.reduceSub, reduceCtorEq, tbAFb1, Try.results86]
  exact ret_done rfl

set_option linter.defProp false in
def tbAFb2 := (And.intro (And.intro (And.intro Ty.sz3 Ty.by3) (And.intro Ty.ag3 (And.intro Ty.zr3 Ty.un3))) (And.intro (And.intro Ty.sz4 (And.intro Ty.by4 Ty.ag4)) (And.intro Ty.zr4 (And.intro Ty.un4 Ty.cb88))))
theorem ord13_ok (a b : Int) : OkP Try.prog 92 [vint a, vint b] (vint (cmpI a b)) := by
  refine Ok.of_ex Ty.mixed Try.func92 rfl (by simp [Try.ntmps92]) (by kernel_rfl) fun F w0 I0 => ?_
  by_cases h1 : a < b
  · simp only [↓ruleA0, ↓ruleA1, ↓ruleA2, ruleB0, ruleB1, ruleB2, ruleB3, ruleL, ↓retK, ncall, Todo_eq, packV, eqTB, litB, litV, fitL, fit, veqL, veq, sbin, sun, nilB, cellsV, oneB, okC, vals, fillV, partsE, Int.reduceLE, Int.reduceLT, Int.reduceToNat, Nat.reduceAdd, Nat.reduceEqDiff, Nat.reduceLT, Nat.reduceLeDiff, Nat.reduceMul, Nat.reduceSub, reduceCtorEq, tbAFb2, Try.results92, h1]
    exact ret_done (by simp [cmpI, h1])
  · by_cases h2 : b < a
    · simp only [↓ruleA0, ↓ruleA1, ↓ruleA2, ruleB0, ruleB1, ruleB2, ruleB3, ruleL, ↓retK, ncall, Todo_eq, packV, eqTB, litB, litV, fitL, fit, veqL, veq, sbin, sun, nilB, cellsV, oneB, okC, vals, fillV, partsE, Int.reduceLE, Int.reduceLT, Int.reduceToNat, Nat.reduceAdd, Nat.reduceEqDiff, Nat.reduceLT, Nat.reduceLeDiff, Nat.reduceMul, Nat.reduceSub, reduceCtorEq, tbAFb2, Try.results92, h1, h2]
      exact ret_done (by simp [cmpI, h1, h2])
    · simp only [↓ruleA0, ↓ruleA1, ↓ruleA2, ruleB0, ruleB1, ruleB2, ruleB3, ruleL, ↓retK, ncall, Todo_eq, packV, eqTB, litB, litV, fitL, fit, veqL, veq, sbin, sun, nilB, cellsV, oneB, okC, vals, fillV, partsE, Int.reduceLE, Int.reduceLT, Int.reduceToNat, Nat.reduceAdd, Nat.reduceEqDiff, Nat.reduceLT, Nat.reduceLeDiff, Nat.reduceMul, Nat.reduceSub, reduceCtorEq, tbAFb2, Try.results92, h1, h2]
      exact ret_done (by simp [cmpI, h1, h2])
set_option linter.defProp false in
def tbAFb3 := (And.intro (And.intro (And.intro Ty.sz3 Ty.by3) (And.intro Ty.ag3 (And.intro Ty.zr3 Ty.un3))) (And.intro (And.intro Ty.sz4 (And.intro Ty.by4 Ty.ag4)) (And.intro Ty.zr4 (And.intro Ty.un4 Ty.cb88))))
theorem ord05_ok (a b : Int) : OkP Try.prog 107 [vint a, vint b] (vint (cmpI a b)) := by
  refine Ok.of_ex Ty.mixed Try.func107 rfl (by simp [Try.ntmps107]) (by kernel_rfl) fun F w0 I0 => ?_
  by_cases h1 : a < b
  · simp only [↓ruleA0, ↓ruleA1, ↓ruleA2, ruleB0, ruleB1, ruleB2, ruleB3, ruleL, ↓retK, ncall, Todo_eq, packV, eqTB, litB, litV, fitL, fit, veqL, veq, sbin, sun, nilB, cellsV, oneB, okC, vals, fillV, partsE, Int.reduceLE, Int.reduceLT, Int.reduceToNat, Nat.reduceAdd, Nat.reduceEqDiff, Nat.reduceLT, Nat.reduceLeDiff, Nat.reduceMul, Nat.reduceSub, reduceCtorEq, tbAFb3, Try.results107, h1]
    exact ret_done (by simp [cmpI, h1])
  · by_cases h2 : b < a
    · simp only [↓ruleA0, ↓ruleA1, ↓ruleA2, ruleB0, ruleB1, ruleB2, ruleB3, ruleL, ↓retK, ncall, Todo_eq, packV, eqTB, litB, litV, fitL, fit, veqL, veq, sbin, sun, nilB, cellsV, oneB, okC, vals, fillV, partsE, Int.reduceLE, Int.reduceLT, Int.reduceToNat, Nat.reduceAdd, Nat.reduceEqDiff, Nat.reduceLT, Nat.reduceLeDiff, Nat.reduceMul, Nat.reduceSub, reduceCtorEq, tbAFb3, Try.results107, h1, h2]
      exact ret_done (by simp [cmpI, h1, h2])
    · simp only [↓ruleA0, ↓ruleA1, ↓ruleA2, ruleB0, ruleB1, ruleB2, ruleB3, ruleL, ↓retK, ncall, Todo_eq, packV, eqTB, litB, litV, fitL, fit, veqL, veq, sbin, sun, nilB, cellsV, oneB, okC, vals, fillV, partsE, Int.reduceLE, Int.reduceLT, Int.reduceToNat, Nat.reduceAdd, Nat.reduceEqDiff, Nat.reduceLT, Nat.reduceLeDiff, Nat.reduceMul, Nat.reduceSub, reduceCtorEq, tbAFb3, Try.results107, h1, h2]
      exact ret_done (by simp [cmpI, h1, h2])
set_option linter.defProp false in
def tbAFb4 := (And.intro (And.intro (And.intro Ty.sz3 Ty.by3) (And.intro Ty.ag3 (And.intro Ty.zr3 Ty.un3))) (And.intro (And.intro Ty.sz4 (And.intro Ty.by4 Ty.ag4)) (And.intro Ty.zr4 (And.intro Ty.un4 Ty.cb88))))
theorem ord20_ok (a b : Int) : OkP Try.prog 79 [vint a, vint b] (vint (cmpI a b)) := by
  refine Ok.of_ex Ty.mixed Try.func79 rfl (by simp [Try.ntmps79]) (by kernel_rfl) fun F w0 I0 => ?_
  by_cases h1 : a < b
  · simp only [↓ruleA0, ↓ruleA1, ↓ruleA2, ruleB0, ruleB1, ruleB2, ruleB3, ruleL, ↓retK, ncall, Todo_eq, packV, eqTB, litB, litV, fitL, fit, veqL, veq, sbin, sun, nilB, cellsV, oneB, okC, vals, fillV, partsE, Int.reduceLE, Int.reduceLT, Int.reduceToNat, Nat.reduceAdd, Nat.reduceEqDiff, Nat.reduceLT, Nat.reduceLeDiff, Nat.reduceMul, Nat.reduceSub, reduceCtorEq, tbAFb4, Try.results79, h1]
    exact ret_done (by simp [cmpI, h1])
  · by_cases h2 : b < a
    · simp only [↓ruleA0, ↓ruleA1, ↓ruleA2, ruleB0, ruleB1, ruleB2, ruleB3, ruleL, ↓retK, ncall, Todo_eq, packV, eqTB, litB, litV, fitL, fit, veqL, veq, sbin, sun, nilB, cellsV, oneB, okC, vals, fillV, partsE, Int.reduceLE, Int.reduceLT, Int.reduceToNat, Nat.reduceAdd, Nat.reduceEqDiff, Nat.reduceLT, Nat.reduceLeDiff, Nat.reduceMul, Nat.reduceSub, reduceCtorEq, tbAFb4, Try.results79, h1, h2]
      exact ret_done (by simp [cmpI, h1, h2])
    · simp only [↓ruleA0, ↓ruleA1, ↓ruleA2, ruleB0, ruleB1, ruleB2, ruleB3, ruleL, ↓retK, ncall, Todo_eq, packV, eqTB, litB, litV, fitL, fit, veqL, veq, sbin, sun, nilB, cellsV, oneB, okC, vals, fillV, partsE, Int.reduceLE, Int.reduceLT, Int.reduceToNat, Nat.reduceAdd, Nat.reduceEqDiff, Nat.reduceLT, Nat.reduceLeDiff, Nat.reduceMul, Nat.reduceSub, reduceCtorEq, tbAFb4, Try.results79, h1, h2]
      exact ret_done (by simp [cmpI, h1, h2])
set_option linter.defProp false in
def tbAFb5 := (And.intro (And.intro (And.intro (And.intro Ty.sz3 Ty.by3) (And.intro Ty.ag3 Ty.zr3)) (And.intro (And.intro Ty.un3 Ty.sz4) (And.intro Ty.by4 Ty.ag4))) (And.intro (And.intro (And.intro Ty.zr4 Ty.un4) (And.intro Ty.sz9 Ty.by9)) (And.intro (And.intro Ty.ag9 Ty.zr9) (And.intro Ty.un9 Ty.cb88))))
theorem words_ok (a b : Str) : OkP Try.prog 80 [vstr a, vstr b] (vint (cmpS a b)) := by
  refine Ok.of_ex Ty.mixed Try.func80 rfl (by simp [Try.ntmps80]) (by kernel_rfl) fun F w0 I0 => ?_
  cases h1 : Op.bytesLess a.data.toList b.data.toList
  · by_cases h2 : a = b
    · subst h2
      simp only [↓ruleA0, ↓ruleA1, ↓ruleA2, ruleB0, ruleB1, ruleB2, ruleB3, ruleL, ↓retK, ncall, Todo_eq, packV, eqTB, litB, litV, fitL, fit, veqL, veq, sbin, sun, nilB, cellsV, oneB, okC, vals, fillV, partsE, Int.reduceLE, Int.reduceLT, Int.reduceToNat, Nat.reduceAdd, Nat.reduceEqDiff, Nat.reduceLT, Nat.reduceLeDiff, Nat.reduceMul, Nat.reduceSub, reduceCtorEq, tbAFb5, Try.results80, h1]
      exact ret_done (by simp [cmpS, less, h1])
    · simp only [↓ruleA0, ↓ruleA1, ↓ruleA2, ruleB0, ruleB1, ruleB2, ruleB3, ruleL, ↓retK, ncall, Todo_eq, packV, eqTB, litB, litV, fitL, fit, veqL, veq, sbin, sun, nilB, cellsV, oneB, okC, vals, fillV, partsE, Int.reduceLE, Int.reduceLT, Int.reduceToNat, Nat.reduceAdd, Nat.reduceEqDiff, Nat.reduceLT, Nat.reduceLeDiff, Nat.reduceMul, Nat.reduceSub, reduceCtorEq, tbAFb5, Try.results80, h1, h2]
      exact ret_done (by simp [cmpS, less, h1, h2])
  · simp only [↓ruleA0, ↓ruleA1, ↓ruleA2, ruleB0, ruleB1, ruleB2, ruleB3, ruleL, ↓retK, ncall, Todo_eq, packV, eqTB, litB, litV, fitL, fit, veqL, veq, sbin, sun, nilB, cellsV, oneB, okC, vals, fillV, partsE, Int.reduceLE, Int.reduceLT, Int.reduceToNat, Nat.reduceAdd, Nat.reduceEqDiff, Nat.reduceLT, Nat.reduceLeDiff, Nat.reduceMul, Nat.reduceSub, reduceCtorEq, tbAFb5, Try.results80, h1]
    exact ret_done (by simp [cmpS, less, h1])

set_option linter.defProp false in
def tbAFb6 := (And.intro (And.intro (And.intro (And.intro (And.intro Ty.sz3 Ty.by3) (And.intro Ty.ag3 Ty.zr3)) (And.intro (And.intro Ty.un3 Ty.sz4) (And.intro Ty.by4 Ty.ag4))) (And.intro (And.intro (And.intro Ty.zr4 Ty.un4) (And.intro Ty.sz9 Ty.by9)) (And.intro (And.intro Ty.ag9 Ty.zr9) (And.intro Ty.un9 Ty.sz53)))) (And.intro (And.intro (And.intro (And.intro Ty.by53 Ty.ag53) (And.intro Ty.zr53 Ty.fl53_0)) (And.intro (And.intro Ty.pl53_0 Ty.fl53_1) (And.intro Ty.pl53_1 Ty.sz98))) (And.intro (And.intro (And.intro Ty.by98 Ty.ag98) (And.intro Ty.zr98 Ty.un98)) (And.intro (And.intro Ty.eq53 Ty.cb49) (And.intro Ty.cb50 (And.intro Ty.cb51 Ty.cb88))))))
theorem cmpID_ok (a b : FID) : OkP Try.prog 25 [.agg (cFID a), .agg (cFID b)] (vint (cmpID a b)) := by
  refine Ok.of_ex Ty.mixed Try.func25 rfl (by simp [Try.ntmps25]) (by kernel_rfl) fun F w0 I0 => ?_
  simp only [↓ruleA0, ↓ruleA1, ↓ruleA2, ruleB0, ruleB1, ruleB2, ruleB3, ruleL, ↓retK, ncall, Todo_eq, packV, eqTB, litB, litV, fitL, fit, veqL, veq, sbin, sun, nilB, cellsV, oneB, okC, vals, fillV, partsE, Int.reduceLE, Int.reduceLT, Int.reduceToNat, Nat.reduceAdd, Nat.reduceEqDiff, Nat.reduceLT, Nat.reduceLeDiff, Nat.reduceMul, Nat.reduceSub, reduceCtorEq, tbAFb6, Try.results25]
  refine fun b1 h1 => ?_; replace h1 := newb h1; try simp only [Nb] at h1
  simp only [↓ruleA0, ↓ruleA1, ↓ruleA2, ruleB0, ruleB1, ruleB2, ruleB3, ruleL, ↓retK, ncall, Todo_eq, packV, eqTB, litB, litV, fitL, fit, veqL, veq, sbin, sun, nilB, cellsV, oneB, okC, vals, fillV, partsE, Int.reduceLE, Int.reduceLT, Int.reduceToNat, Nat.reduceAdd, Nat.reduceEqDiff, Nat.reduceLT, Nat.reduceLeDiff, Nat.reduceMul, Nat.reduceSub, reduceCtorEq, tbAFb6, Try.results25]
  refine fun b2 h2 => ?_; replace h2 := newb h2; try simp only [Nb] at h2
  simp only [↓ruleA0, ↓ruleA1, ↓ruleA2, ruleB0, ruleB1, ruleB2, ruleB3, ruleL, ↓retK, ncall, Todo_eq, packV, eqTB, litB, litV, fitL, fit, veqL, veq, sbin, sun, nilB, cellsV, oneB, okC, vals, fillV, partsE, Int.reduceLE, Int.reduceLT, Int.reduceToNat, Nat.reduceAdd, Nat.reduceEqDiff, Nat.reduceLT, Nat.reduceLeDiff, Nat.reduceMul, Nat.reduceSub, reduceCtorEq, tbAFb6, Try.results25, h1, h2]
  refine onCond_splitb (fun hc => ?_) (fun hc => ?_)
  · simp only [↓ruleA0, ↓ruleA1, ↓ruleA2, ruleB0, ruleB1, ruleB2, ruleB3, ruleL, ↓retK, ncall, Todo_eq, packV, eqTB, litB, litV, fitL, fit, veqL, veq, sbin, sun, nilB, cellsV, oneB, okC, vals, fillV, partsE, Int.reduceLE, Int.reduceLT, Int.reduceToNat, Nat.reduceAdd, Nat.reduceEqDiff, Nat.reduceLT, Nat.reduceLeDiff, Nat.reduceMul, Nat.reduceSub, reduceCtorEq, tbAFb6, Try.results25]
    simp only [Bool.and_eq_true, decide_eq_true_eq] at hc
    have : a = b := by cases a; cases b; simp_all
    exact ret_done (by simp [cmpID, this])
  · have : ¬ a = b := fun e => by subst e; simp at hc
    simp only [↓ruleA0, ↓ruleA1, ↓ruleA2, ruleB0, ruleB1, ruleB2, ruleB3, ruleL, ↓retK, ncall, Todo_eq, packV, eqTB, litB, litV, fitL, fit, veqL, veq, sbin, sun, nilB, cellsV, oneB, okC, vals, fillV, partsE, Int.reduceLE, Int.reduceLT, Int.reduceToNat, Nat.reduceAdd, Nat.reduceEqDiff, Nat.reduceLT, Nat.reduceLeDiff, Nat.reduceMul, Nat.reduceSub, reduceCtorEq, tbAFb6, Try.results25, h1, h2]
    refine CallV_of _ (cmpS_ok a.src b.src).v ?_
    simp only [↓ruleA0, ↓ruleA1, ↓ruleA2, ruleB0, ruleB1, ruleB2, ruleB3, ruleL, ↓retK, ncall, Todo_eq, packV, eqTB, litB, litV, fitL, fit, veqL, veq, sbin, sun, nilB, cellsV, oneB, okC, vals, fillV, partsE, Int.reduceLE, Int.reduceLT, Int.reduceToNat, Nat.reduceAdd, Nat.reduceEqDiff, Nat.reduceLT, Nat.reduceLeDiff, Nat.reduceMul, Nat.reduceSub, reduceCtorEq, tbAFb6, Try.results25, h1, h2]
    refine CallV_of _ (cmpI_ok a.seq b.seq).v ?_
    simp only [↓ruleA0, ↓ruleA1, ↓ruleA2, ruleB0, ruleB1, ruleB2, ruleB3, ruleL, ↓retK, ncall, Todo_eq, packV, eqTB, litB, litV, fitL, fit, veqL, veq, sbin, sun, nilB, cellsV, oneB, okC, vals, fillV, partsE, Int.reduceLE, Int.reduceLT, Int.reduceToNat, Nat.reduceAdd, Nat.reduceEqDiff, Nat.reduceLT, Nat.reduceLeDiff, Nat.reduceMul, Nat.reduceSub, reduceCtorEq, tbAFb6, Try.results25, h1, h2]
    refine CallV_of _ (or_ok [cmpS a.src b.src, cmpI a.seq b.seq] (by simp)).v ?_
    simp only [↓ruleA0, ↓ruleA1, ↓ruleA2, ruleB0, ruleB1, ruleB2, ruleB3, ruleL, ↓retK, ncall, Todo_eq, packV, eqTB, litB, litV, fitL, fit, veqL, veq, sbin, sun, nilB, cellsV, oneB, okC, vals, fillV, partsE, Int.reduceLE, Int.reduceLT, Int.reduceToNat, Nat.reduceAdd, Nat.reduceEqDiff, Nat.reduceLT, Nat.reduceLeDiff, Nat.reduceMul, Nat.reduceSub, reduceCtorEq, tbAFb6, Try.results25]
    exact ret_done (by simp [cmpID, this])
set_option linter.defProp false in
def tbAFb7 := (And.intro (And.intro (And.intro (And.intro (And.intro Ty.sz3 (And.intro Ty.by3 Ty.ag3)) (And.intro (And.intro Ty.zr3 Ty.un3) (And.intro Ty.sz9 Ty.by9))) (And.intro (And.intro (And.intro Ty.ag9 Ty.zr9) (And.intro Ty.un9 Ty.sz53)) (And.intro (And.intro Ty.by53 Ty.ag53) (And.intro Ty.zr53 Ty.fl53_0)))) (And.intro (And.intro (And.intro (And.intro Ty.pl53_0 Ty.fl53_1) (And.intro Ty.pl53_1 Ty.sz54)) (And.intro (And.intro Ty.by54 Ty.ag54) (And.intro Ty.zr54 Ty.un54))) (And.intro (And.intro (And.intro Ty.sz56 Ty.by56) (And.intro Ty.ag56 Ty.zr56)) (And.intro (And.intro Ty.fl56_0 Ty.pl56_0) (And.intro Ty.fl56_1 Ty.pl56_1))))) (And.intro (And.intro (And.intro (And.intro Ty.fl56_2 (And.intro Ty.pl56_2 Ty.fl56_3)) (And.intro (And.intro Ty.pl56_3 Ty.fl56_4) (And.intro Ty.pl56_4 Ty.fl56_5))) (And.intro (And.intro (And.intro Ty.pl56_5 Ty.fl56_6) (And.intro Ty.pl56_6 Ty.sz98)) (And.intro (And.intro Ty.by98 Ty.ag98) (And.intro Ty.zr98 Ty.un98)))) (And.intro (And.intro (And.intro (And.intro Ty.sz109 Ty.by109) (And.intro Ty.ag109 Ty.zr109)) (And.intro (And.intro Ty.fl109_0 Ty.pl109_0) (And.intro Ty.fl109_1 Ty.pl109_1))) (And.intro (And.intro (And.intro Ty.fl109_2 Ty.pl109_2) (And.intro Ty.eq53 Ty.eq109)) (And.intro (And.intro Ty.cb25 Ty.cb49) (And.intro Ty.cb51 Ty.cb88))))))
theorem cmpRow_ok (a b : Rw) : OkP Try.prog 85 [.agg (cRow a), .agg (cRow b)] (vint (cmpRow a b)) := by
  refine Ok.of_ex Ty.mixed Try.func85 rfl (by simp [Try.ntmps85]) (by kernel_rfl) fun F w0 I0 => ?_
  simp only [↓ruleA0, ↓ruleA1, ↓ruleA2, ruleB0, ruleB1, ruleB2, ruleB3, ruleL, ↓retK, ncall, Todo_eq, packV, eqTB, litB, litV, fitL, fit, veqL, veq, sbin, sun, nilB, cellsV, oneB, okC, vals, fillV, partsE, Int.reduceLE, Int.reduceLT, Int.reduceToNat, Nat.reduceAdd, Nat.reduceEqDiff, Nat.reduceLT, Nat.reduceLeDiff, Nat.reduceMul, Nat.reduceSub, reduceCtorEq, tbAFb7, Try.results85]
  refine fun b1 h1 => ?_; replace h1 := newb h1; try simp only [Nb] at h1
  simp only [↓ruleA0, ↓ruleA1, ↓ruleA2, ruleB0, ruleB1, ruleB2, ruleB3, ruleL, ↓retK, ncall, Todo_eq, packV, eqTB, litB, litV, fitL, fit, veqL, veq, sbin, sun, nilB, cellsV, oneB, okC, vals, fillV, partsE, Int.reduceLE, Int.reduceLT, Int.reduceToNat, Nat.reduceAdd, Nat.reduceEqDiff, Nat.reduceLT, Nat.reduceLeDiff, Nat.reduceMul, Nat.reduceSub, reduceCtorEq, tbAFb7, Try.results85]
  refine fun b2 h2 => ?_; replace h2 := newb h2; try simp only [Nb] at h2
  simp only [↓ruleA0, ↓ruleA1, ↓ruleA2, ruleB0, ruleB1, ruleB2, ruleB3, ruleL, ↓retK, ncall, Todo_eq, packV, eqTB, litB, litV, fitL, fit, veqL, veq, sbin, sun, nilB, cellsV, oneB, okC, vals, fillV, partsE, Int.reduceLE, Int.reduceLT, Int.reduceToNat, Nat.reduceAdd, Nat.reduceEqDiff, Nat.reduceLT, Nat.reduceLeDiff, Nat.reduceMul, Nat.reduceSub, reduceCtorEq, tbAFb7, Try.results85, h1, h2]
  refine CallV_of _ (cmpI_ok a.event b.event).v ?_
  simp only [↓ruleA0, ↓ruleA1, ↓ruleA2, ruleB0, ruleB1, ruleB2, ruleB3, ruleL, ↓retK, ncall, Todo_eq, packV, eqTB, litB, litV, fitL, fit, veqL, veq, sbin, sun, nilB, cellsV, oneB, okC, vals, fillV, partsE, Int.reduceLE, Int.reduceLT, Int.reduceToNat, Nat.reduceAdd, Nat.reduceEqDiff, Nat.reduceLT, Nat.reduceLeDiff, Nat.reduceMul, Nat.reduceSub, reduceCtorEq, tbAFb7, Try.results85, h1, h2]
  refine CallV_of _ (cmpID_ok a.id b.id).v ?_
  simp only [↓ruleA0, ↓ruleA1, ↓ruleA2, ruleB0, ruleB1, ruleB2, ruleB3, ruleL, ↓retK, ncall, Todo_eq, packV, eqTB, litB, litV, fitL, fit, veqL, veq, sbin, sun, nilB, cellsV, oneB, okC, vals, fillV, partsE, Int.reduceLE, Int.reduceLT, Int.reduceToNat, Nat.reduceAdd, Nat.reduceEqDiff, Nat.reduceLT, Nat.reduceLeDiff, Nat.reduceMul, Nat.reduceSub, reduceCtorEq, tbAFb7, Try.results85, h1, h2]
  refine CallV_of _ (or_ok [cmpI a.event b.event, cmpID a.id b.id] (by simp)).v ?_
  simp only [↓ruleA0, ↓ruleA1, ↓ruleA2, ruleB0, ruleB1, ruleB2, ruleB3, ruleL, ↓retK, ncall, Todo_eq, packV, eqTB, litB, litV, fitL, fit, veqL, veq, sbin, sun, nilB, cellsV, oneB, okC, vals, fillV, partsE, Int.reduceLE, Int.reduceLT, Int.reduceToNat, Nat.reduceAdd, Nat.reduceEqDiff, Nat.reduceLT, Nat.reduceLeDiff, Nat.reduceMul, Nat.reduceSub, reduceCtorEq, tbAFb7, Try.results85]
  exact ret_done rfl
set_option linter.defProp false in
def tbAFb8 := (And.intro (And.intro (And.intro (And.intro Ty.sz3 (And.intro Ty.by3 Ty.ag3)) (And.intro (And.intro Ty.zr3 Ty.un3) (And.intro Ty.sz9 Ty.by9))) (And.intro (And.intro (And.intro Ty.ag9 Ty.zr9) (And.intro Ty.un9 Ty.sz98)) (And.intro (And.intro Ty.by98 Ty.ag98) (And.intro Ty.zr98 Ty.un98)))) (And.intro (And.intro (And.intro Ty.sz109 (And.intro Ty.by109 Ty.ag109)) (And.intro (And.intro Ty.zr109 Ty.fl109_0) (And.intro Ty.pl109_0 Ty.fl109_1))) (And.intro (And.intro (And.intro Ty.pl109_1 Ty.fl109_2) (And.intro Ty.pl109_2 Ty.eq109)) (And.intro (And.intro Ty.cb49 Ty.cb51) (And.intro Ty.cb86 Ty.cb88)))))
theorem cmpVal_ok (a b : Val) : OkP Try.prog 88 [.agg (cVal a), .agg (cVal b)] (vint (cmpVal a b)) := by
  refine Ok.of_ex Ty.mixed Try.func88 rfl (by simp [Try.ntmps88]) (by kernel_rfl) fun F w0 I0 => ?_
  simp only [↓ruleA0, ↓ruleA1, ↓ruleA2, ruleB0, ruleB1, ruleB2, ruleB3, ruleL, ↓retK, ncall, Todo_eq, packV, eqTB, litB, litV, fitL, fit, veqL, veq, sbin, sun, nilB, cellsV, oneB, okC, vals, fillV, partsE, Int.reduceLE, Int.reduceLT, Int.reduceToNat, Nat.reduceAdd, Nat.reduceEqDiff, Nat.reduceLT, Nat.reduceLeDiff, Nat.reduceMul, Nat.reduceSub, reduceCtorEq, tbAFb8, Try.results88]
  refine fun b1 h1 => ?_; replace h1 := newb h1; try simp only [Nb] at h1
  simp only [↓ruleA0, ↓ruleA1, ↓ruleA2, ruleB0, ruleB1, ruleB2, ruleB3, ruleL, ↓retK, ncall, Todo_eq, packV, eqTB, litB, litV, fitL, fit, veqL, veq, sbin, sun, nilB, cellsV, oneB, okC, vals, fillV, partsE, Int.reduceLE, Int.reduceLT, Int.reduceToNat, Nat.reduceAdd, Nat.reduceEqDiff, Nat.reduceLT, Nat.reduceLeDiff, Nat.reduceMul, Nat.reduceSub, reduceCtorEq, tbAFb8, Try.results88]
  refine fun b2 h2 => ?_; replace h2 := newb h2; try simp only [Nb] at h2
  simp only [↓ruleA0, ↓ruleA1, ↓ruleA2, ruleB0, ruleB1, ruleB2, ruleB3, ruleL, ↓retK, ncall, Todo_eq, packV, eqTB, litB, litV, fitL, fit, veqL, veq, sbin, sun, nilB, cellsV, oneB, okC, vals, fillV, partsE, Int.reduceLE, Int.reduceLT, Int.reduceToNat, Nat.reduceAdd, Nat.reduceEqDiff, Nat.reduceLT, Nat.reduceLeDiff, Nat.reduceMul, Nat.reduceSub, reduceCtorEq, tbAFb8, Try.results88, h1, h2]
  refine CallV_of _ (cmpI_ok a.kind b.kind).v ?_
  simp only [↓ruleA0, ↓ruleA1, ↓ruleA2, ruleB0, ruleB1, ruleB2, ruleB3, ruleL, ↓retK, ncall, Todo_eq, packV, eqTB, litB, litV, fitL, fit, veqL, veq, sbin, sun, nilB, cellsV, oneB, okC, vals, fillV, partsE, Int.reduceLE, Int.reduceLT, Int.reduceToNat, Nat.reduceAdd, Nat.reduceEqDiff, Nat.reduceLT, Nat.reduceLeDiff, Nat.reduceMul, Nat.reduceSub, reduceCtorEq, tbAFb8, Try.results88, h1, h2]
  refine CallV_of _ (cmpI_ok a.n b.n).v ?_
  simp only [↓ruleA0, ↓ruleA1, ↓ruleA2, ruleB0, ruleB1, ruleB2, ruleB3, ruleL, ↓retK, ncall, Todo_eq, packV, eqTB, litB, litV, fitL, fit, veqL, veq, sbin, sun, nilB, cellsV, oneB, okC, vals, fillV, partsE, Int.reduceLE, Int.reduceLT, Int.reduceToNat, Nat.reduceAdd, Nat.reduceEqDiff, Nat.reduceLT, Nat.reduceLeDiff, Nat.reduceMul, Nat.reduceSub, reduceCtorEq, tbAFb8, Try.results88, h1, h2]
  refine CallV_of _ (stringsCompare_ok a.s b.s).v ?_
  simp only [↓ruleA0, ↓ruleA1, ↓ruleA2, ruleB0, ruleB1, ruleB2, ruleB3, ruleL, ↓retK, ncall, Todo_eq, packV, eqTB, litB, litV, fitL, fit, veqL, veq, sbin, sun, nilB, cellsV, oneB, okC, vals, fillV, partsE, Int.reduceLE, Int.reduceLT, Int.reduceToNat, Nat.reduceAdd, Nat.reduceEqDiff, Nat.reduceLT, Nat.reduceLeDiff, Nat.reduceMul, Nat.reduceSub, reduceCtorEq, tbAFb8, Try.results88, h1, h2]
  refine CallV_of _ (or_ok [cmpI a.kind b.kind, cmpI a.n b.n, cmpS a.s b.s] (by simp)).v ?_
  simp only [↓ruleA0, ↓ruleA1, ↓ruleA2, ruleB0, ruleB1, ruleB2, ruleB3, ruleL, ↓retK, ncall, Todo_eq, packV, eqTB, litB, litV, fitL, fit, veqL, veq, sbin, sun, nilB, cellsV, oneB, okC, vals, fillV, partsE, Int.reduceLE, Int.reduceLT, Int.reduceToNat, Nat.reduceAdd, Nat.reduceEqDiff, Nat.reduceLT, Nat.reduceLeDiff, Nat.reduceMul, Nat.reduceSub, reduceCtorEq, tbAFb8, Try.results88]
  exact ret_done rfl
set_option linter.defProp false in
def tbAFb9 := (And.intro (And.intro (And.intro (And.intro Ty.sz3 (And.intro Ty.by3 Ty.ag3)) (And.intro Ty.zr3 (And.intro Ty.un3 Ty.sz4))) (And.intro (And.intro Ty.by4 (And.intro Ty.ag4 Ty.zr4)) (And.intro (And.intro Ty.un4 Ty.sz9) (And.intro Ty.by9 Ty.ag9)))) (And.intro (And.intro (And.intro Ty.zr9 (And.intro Ty.un9 Ty.sz53)) (And.intro Ty.by53 (And.intro Ty.ag53 Ty.zr53))) (And.intro (And.intro Ty.fl53_0 (And.intro Ty.pl53_0 Ty.fl53_1)) (And.intro (And.intro Ty.pl53_1 Ty.eq53) (And.intro Ty.cb88 Ty.cb92)))))
theorem cmpID13_ok (a b : FID) : OkP Try.prog 93 [.agg (cFID a), .agg (cFID b)] (vint (cmpID a b)) := by
  refine Ok.of_ex Ty.mixed Try.func93 rfl (by simp [Try.ntmps93]) (by kernel_rfl) fun F w0 I0 => ?_
  simp only [↓ruleA0, ↓ruleA1, ↓ruleA2, ruleB0, ruleB1, ruleB2, ruleB3, ruleL, ↓retK, ncall, Todo_eq, packV, eqTB, litB, litV, fitL, fit, veqL, veq, sbin, sun, nilB, cellsV, oneB, okC, vals, fillV, partsE, Int.reduceLE, Int.reduceLT, Int.reduceToNat, Nat.reduceAdd, Nat.reduceEqDiff, Nat.reduceLT, Nat.reduceLeDiff, Nat.reduceMul, Nat.reduceSub, reduceCtorEq, tbAFb9, Try.results93]
  refine fun b1 h1 => ?_; replace h1 := newb h1; try simp only [Nb] at h1
  simp only [↓ruleA0, ↓ruleA1, ↓ruleA2, ruleB0, ruleB1, ruleB2, ruleB3, ruleL, ↓retK, ncall, Todo_eq, packV, eqTB, litB, litV, fitL, fit, veqL, veq, sbin, sun, nilB, cellsV, oneB, okC, vals, fillV, partsE, Int.reduceLE, Int.reduceLT, Int.reduceToNat, Nat.reduceAdd, Nat.reduceEqDiff, Nat.reduceLT, Nat.reduceLeDiff, Nat.reduceMul, Nat.reduceSub, reduceCtorEq, tbAFb9, Try.results93]
  refine fun b2 h2 => ?_; replace h2 := newb h2; try simp only [Nb] at h2
  simp only [↓ruleA0, ↓ruleA1, ↓ruleA2, ruleB0, ruleB1, ruleB2, ruleB3, ruleL, ↓retK, ncall, Todo_eq, packV, eqTB, litB, litV, fitL, fit, veqL, veq, sbin, sun, nilB, cellsV, oneB, okC, vals, fillV, partsE, Int.reduceLE, Int.reduceLT, Int.reduceToNat, Nat.reduceAdd, Nat.reduceEqDiff, Nat.reduceLT, Nat.reduceLeDiff, Nat.reduceMul, Nat.reduceSub, reduceCtorEq, tbAFb9, Try.results93, h1, h2]
  cases hl : Op.bytesLess a.src.data.toList b.src.data.toList
  · by_cases he : a.src = b.src
    · have hl2 : Op.bytesLess b.src.data.toList b.src.data.toList = false := he ▸ hl
      simp only [↓ruleA0, ↓ruleA1, ↓ruleA2, ruleB0, ruleB1, ruleB2, ruleB3, ruleL, ↓retK, ncall, Todo_eq, packV, eqTB, litB, litV, fitL, fit, veqL, veq, sbin, sun, nilB, cellsV, oneB, okC, vals, fillV, partsE, Int.reduceLE, Int.reduceLT, Int.reduceToNat, Nat.reduceAdd, Nat.reduceEqDiff, Nat.reduceLT, Nat.reduceLeDiff, Nat.reduceMul, Nat.reduceSub, reduceCtorEq, tbAFb9, Try.results93, h1, h2, hl2, he]
      refine OkF_of _ (ord13_ok a.seq b.seq) ?_
      simp only [↓ruleA0, ↓ruleA1, ↓ruleA2, ruleB0, ruleB1, ruleB2, ruleB3, ruleL, ↓retK, ncall, Todo_eq, packV, eqTB, litB, litV, fitL, fit, veqL, veq, sbin, sun, nilB, cellsV, oneB, okC, vals, fillV, partsE, Int.reduceLE, Int.reduceLT, Int.reduceToNat, Nat.reduceAdd, Nat.reduceEqDiff, Nat.reduceLT, Nat.reduceLeDiff, Nat.reduceMul, Nat.reduceSub, reduceCtorEq, tbAFb9, Try.results93]
      exact ret_done (by rw [cmpID_seq he])
    · simp only [↓ruleA0, ↓ruleA1, ↓ruleA2, ruleB0, ruleB1, ruleB2, ruleB3, ruleL, ↓retK, ncall, Todo_eq, packV, eqTB, litB, litV, fitL, fit, veqL, veq, sbin, sun, nilB, cellsV, oneB, okC, vals, fillV, partsE, Int.reduceLE, Int.reduceLT, Int.reduceToNat, Nat.reduceAdd, Nat.reduceEqDiff, Nat.reduceLT, Nat.reduceLeDiff, Nat.reduceMul, Nat.reduceSub, reduceCtorEq, tbAFb9, Try.results93, h1, h2, hl, he]
      exact ret_done (by rw [cmpID_src he, cmpS_gt hl he])
  · simp only [↓ruleA0, ↓ruleA1, ↓ruleA2, ruleB0, ruleB1, ruleB2, ruleB3, ruleL, ↓retK, ncall, Todo_eq, packV, eqTB, litB, litV, fitL, fit, veqL, veq, sbin, sun, nilB, cellsV, oneB, okC, vals, fillV, partsE, Int.reduceLE, Int.reduceLT, Int.reduceToNat, Nat.reduceAdd, Nat.reduceEqDiff, Nat.reduceLT, Nat.reduceLeDiff, Nat.reduceMul, Nat.reduceSub, reduceCtorEq, tbAFb9, Try.results93, h1, h2, hl]
    exact ret_done (by rw [cmpID_src (less_ne hl), cmpS_lt hl])
set_option linter.defProp false in
def tbAFb10 := (And.intro (And.intro (And.intro (And.intro (And.intro Ty.sz3 (And.intro Ty.by3 Ty.ag3)) (And.intro (And.intro Ty.zr3 Ty.un3) (And.intro Ty.sz4 Ty.by4))) (And.intro (And.intro (And.intro Ty.ag4 Ty.zr4) (And.intro Ty.un4 Ty.sz9)) (And.intro (And.intro Ty.by9 Ty.ag9) (And.intro Ty.zr9 Ty.un9)))) (And.intro (And.intro (And.intro Ty.sz53 (And.intro Ty.by53 Ty.ag53)) (And.intro (And.intro Ty.zr53 Ty.fl53_0) (And.intro Ty.pl53_0 Ty.fl53_1))) (And.intro (And.intro (And.intro Ty.pl53_1 Ty.sz54) (And.intro Ty.by54 Ty.ag54)) (And.intro (And.intro Ty.zr54 Ty.un54) (And.intro Ty.sz56 Ty.by56))))) (And.intro (And.intro (And.intro (And.intro Ty.ag56 (And.intro Ty.zr56 Ty.fl56_0)) (And.intro (And.intro Ty.pl56_0 Ty.fl56_1) (And.intro Ty.pl56_1 Ty.fl56_2))) (And.intro (And.intro (And.intro Ty.pl56_2 Ty.fl56_3) (And.intro Ty.pl56_3 Ty.fl56_4)) (And.intro (And.intro Ty.pl56_4 Ty.fl56_5) (And.intro Ty.pl56_5 Ty.fl56_6)))) (And.intro (And.intro (And.intro (And.intro Ty.pl56_6 Ty.sz109) (And.intro Ty.by109 Ty.ag109)) (And.intro (And.intro Ty.zr109 Ty.fl109_0) (And.intro Ty.pl109_0 Ty.fl109_1))) (And.intro (And.intro (And.intro Ty.pl109_1 Ty.fl109_2) (And.intro Ty.pl109_2 Ty.eq53)) (And.intro (And.intro Ty.eq109 Ty.cb88) (And.intro Ty.cb92 Ty.cb93))))))
theorem cmpRow13_ok (a b : Rw) : OkP Try.prog 78 [.agg (cRow a), .agg (cRow b)] (vint (cmpRow a b)) := by
  refine Ok.of_ex Ty.mixed Try.func78 rfl (by simp [Try.ntmps78]) (by kernel_rfl) fun F w0 I0 => ?_
  simp only [↓ruleA0, ↓ruleA1, ↓ruleA2, ruleB0, ruleB1, ruleB2, ruleB3, ruleL, ↓retK, ncall, Todo_eq, packV, eqTB, litB, litV, fitL, fit, veqL, veq, sbin, sun, nilB, cellsV, oneB, okC, vals, fillV, partsE, Int.reduceLE, Int.reduceLT, Int.reduceToNat, Nat.reduceAdd, Nat.reduceEqDiff, Nat.reduceLT, Nat.reduceLeDiff, Nat.reduceMul, Nat.reduceSub, reduceCtorEq, tbAFb10, Try.results78]
  refine fun b1 h1 => ?_; replace h1 := newb h1; try simp only [Nb] at h1
  simp only [↓ruleA0, ↓ruleA1, ↓ruleA2, ruleB0, ruleB1, ruleB2, ruleB3, ruleL, ↓retK, ncall, Todo_eq, packV, eqTB, litB, litV, fitL, fit, veqL, veq, sbin, sun, nilB, cellsV, oneB, okC, vals, fillV, partsE, Int.reduceLE, Int.reduceLT, Int.reduceToNat, Nat.reduceAdd, Nat.reduceEqDiff, Nat.reduceLT, Nat.reduceLeDiff, Nat.reduceMul, Nat.reduceSub, reduceCtorEq, tbAFb10, Try.results78]
  refine fun b2 h2 => ?_; replace h2 := newb h2; try simp only [Nb] at h2
  simp only [↓ruleA0, ↓ruleA1, ↓ruleA2, ruleB0, ruleB1, ruleB2, ruleB3, ruleL, ↓retK, ncall, Todo_eq, packV, eqTB, litB, litV, fitL, fit, veqL, veq, sbin, sun, nilB, cellsV, oneB, okC, vals, fillV, partsE, Int.reduceLE, Int.reduceLT, Int.reduceToNat, Nat.reduceAdd, Nat.reduceEqDiff, Nat.reduceLT, Nat.reduceLeDiff, Nat.reduceMul, Nat.reduceSub, reduceCtorEq, tbAFb10, Try.results78, h1, h2]
  refine OkF_of _ (ord13_ok a.event b.event) ?_
  by_cases h0 : cmpI a.event b.event = 0
  · simp only [↓ruleA0, ↓ruleA1, ↓ruleA2, ruleB0, ruleB1, ruleB2, ruleB3, ruleL, ↓retK, ncall, Todo_eq, packV, eqTB, litB, litV, fitL, fit, veqL, veq, sbin, sun, nilB, cellsV, oneB, okC, vals, fillV, partsE, Int.reduceLE, Int.reduceLT, Int.reduceToNat, Nat.reduceAdd, Nat.reduceEqDiff, Nat.reduceLT, Nat.reduceLeDiff, Nat.reduceMul, Nat.reduceSub, reduceCtorEq, tbAFb10, Try.results78, h1, h2, h0]
    refine OkF_of _ (cmpID13_ok a.id b.id) ?_
    simp only [↓ruleA0, ↓ruleA1, ↓ruleA2, ruleB0, ruleB1, ruleB2, ruleB3, ruleL, ↓retK, ncall, Todo_eq, packV, eqTB, litB, litV, fitL, fit, veqL, veq, sbin, sun, nilB, cellsV, oneB, okC, vals, fillV, partsE, Int.reduceLE, Int.reduceLT, Int.reduceToNat, Nat.reduceAdd, Nat.reduceEqDiff, Nat.reduceLT, Nat.reduceLeDiff, Nat.reduceMul, Nat.reduceSub, reduceCtorEq, tbAFb10, Try.results78]
    exact ret_done (by simp [cmpRow, orL, h0])
  · simp only [↓ruleA0, ↓ruleA1, ↓ruleA2, ruleB0, ruleB1, ruleB2, ruleB3, ruleL, ↓retK, ncall, Todo_eq, packV, eqTB, litB, litV, fitL, fit, veqL, veq, sbin, sun, nilB, cellsV, oneB, okC, vals, fillV, partsE, Int.reduceLE, Int.reduceLT, Int.reduceToNat, Nat.reduceAdd, Nat.reduceEqDiff, Nat.reduceLT, Nat.reduceLeDiff, Nat.reduceMul, Nat.reduceSub, reduceCtorEq, tbAFb10, Try.results78, h1, h2, h0]
    exact ret_done (by simp [cmpRow, orL, h0])
set_option linter.defProp false in
def tbAFb11 := (And.intro (And.intro (And.intro (And.intro Ty.sz3 (And.intro Ty.by3 Ty.ag3)) (And.intro (And.intro Ty.zr3 Ty.un3) (And.intro Ty.sz4 Ty.by4))) (And.intro (And.intro Ty.ag4 (And.intro Ty.zr4 Ty.un4)) (And.intro (And.intro Ty.sz9 Ty.by9) (And.intro Ty.ag9 Ty.zr9)))) (And.intro (And.intro (And.intro Ty.un9 (And.intro Ty.sz109 Ty.by109)) (And.intro (And.intro Ty.ag109 Ty.zr109) (And.intro Ty.fl109_0 Ty.pl109_0))) (And.intro (And.intro Ty.fl109_1 (And.intro Ty.pl109_1 Ty.fl109_2)) (And.intro (And.intro Ty.pl109_2 Ty.eq109) (And.intro Ty.cb88 Ty.cb107)))))
theorem cmpVal05_ok (a b : Val) : OkP Try.prog 94 [.agg (cVal a), .agg (cVal b)] (vint (cmpVal a b)) := by
  refine Ok.of_ex Ty.mixed Try.func94 rfl (by simp [Try.ntmps94]) (by kernel_rfl) fun F w0 I0 => ?_
  simp only [↓ruleA0, ↓ruleA1, ↓ruleA2, ruleB0, ruleB1, ruleB2, ruleB3, ruleL, ↓retK, ncall, Todo_eq, packV, eqTB, litB, litV, fitL, fit, veqL, veq, sbin, sun, nilB, cellsV, oneB, okC, vals, fillV, partsE, Int.reduceLE, Int.reduceLT, Int.reduceToNat, Nat.reduceAdd, Nat.reduceEqDiff, Nat.reduceLT, Nat.reduceLeDiff, Nat.reduceMul, Nat.reduceSub, reduceCtorEq, tbAFb11, Try.results94]
  refine fun b1 h1 => ?_; replace h1 := newb h1; try simp only [Nb] at h1
  simp only [↓ruleA0, ↓ruleA1, ↓ruleA2, ruleB0, ruleB1, ruleB2, ruleB3, ruleL, ↓retK, ncall, Todo_eq, packV, eqTB, litB, litV, fitL, fit, veqL, veq, sbin, sun, nilB, cellsV, oneB, okC, vals, fillV, partsE, Int.reduceLE, Int.reduceLT, Int.reduceToNat, Nat.reduceAdd, Nat.reduceEqDiff, Nat.reduceLT, Nat.reduceLeDiff, Nat.reduceMul, Nat.reduceSub, reduceCtorEq, tbAFb11, Try.results94]
  refine fun b2 h2 => ?_; replace h2 := newb h2; try simp only [Nb] at h2
  by_cases e1 : a.kind = b.kind
  · by_cases e2 : a.n = b.n
    · cases hl : Op.bytesLess a.s.data.toList b.s.data.toList
      · by_cases he : a.s = b.s
        · have hl2 : Op.bytesLess b.s.data.toList b.s.data.toList = false := he ▸ hl
          simp only [↓ruleA0, ↓ruleA1, ↓ruleA2, ruleB0, ruleB1, ruleB2, ruleB3, ruleL, ↓retK, ncall, Todo_eq, packV, eqTB, litB, litV, fitL, fit, veqL, veq, sbin, sun, nilB, cellsV, oneB, okC, vals, fillV, partsE, Int.reduceLE, Int.reduceLT, Int.reduceToNat, Nat.reduceAdd, Nat.reduceEqDiff, Nat.reduceLT, Nat.reduceLeDiff, Nat.reduceMul, Nat.reduceSub, reduceCtorEq, tbAFb11, Try.results94, h1, h2, e1, e2, he, hl2]
          exact ret_done (by simp [cmpVal, orL, cmpI_eq0.2 e1, cmpI_eq0.2 e2, cmpS_eq0.2 he])
        · simp only [↓ruleA0, ↓ruleA1, ↓ruleA2, ruleB0, ruleB1, ruleB2, ruleB3, ruleL, ↓retK, ncall, Todo_eq, packV, eqTB, litB, litV, fitL, fit, veqL, veq, sbin, sun, nilB, cellsV, oneB, okC, vals, fillV, partsE, Int.reduceLE, Int.reduceLT, Int.reduceToNat, Nat.reduceAdd, Nat.reduceEqDiff, Nat.reduceLT, Nat.reduceLeDiff, Nat.reduceMul, Nat.reduceSub, reduceCtorEq, tbAFb11, Try.results94, h1, h2, e1, e2, he, hl]
          exact ret_done (by simp [cmpVal, orL, cmpI_eq0.2 e1, cmpI_eq0.2 e2, cmpS_gt hl he])
      · simp only [↓ruleA0, ↓ruleA1, ↓ruleA2, ruleB0, ruleB1, ruleB2, ruleB3, ruleL, ↓retK, ncall, Todo_eq, packV, eqTB, litB, litV, fitL, fit, veqL, veq, sbin, sun, nilB, cellsV, oneB, okC, vals, fillV, partsE, Int.reduceLE, Int.reduceLT, Int.reduceToNat, Nat.reduceAdd, Nat.reduceEqDiff, Nat.reduceLT, Nat.reduceLeDiff, Nat.reduceMul, Nat.reduceSub, reduceCtorEq, tbAFb11, Try.results94, h1, h2, e1, e2, hl]
        exact ret_done (by simp [cmpVal, orL, cmpI_eq0.2 e1, cmpI_eq0.2 e2, cmpS_lt hl])
    · simp only [↓ruleA0, ↓ruleA1, ↓ruleA2, ruleB0, ruleB1, ruleB2, ruleB3, ruleL, ↓retK, ncall, Todo_eq, packV, eqTB, litB, litV, fitL, fit, veqL, veq, sbin, sun, nilB, cellsV, oneB, okC, vals, fillV, partsE, Int.reduceLE, Int.reduceLT, Int.reduceToNat, Nat.reduceAdd, Nat.reduceEqDiff, Nat.reduceLT, Nat.reduceLeDiff, Nat.reduceMul, Nat.reduceSub, reduceCtorEq, tbAFb11, Try.results94, h1, h2, e1, e2]
      refine OkF_of _ (ord05_ok a.n b.n) ?_
      simp only [↓ruleA0, ↓ruleA1, ↓ruleA2, ruleB0, ruleB1, ruleB2, ruleB3, ruleL, ↓retK, ncall, Todo_eq, packV, eqTB, litB, litV, fitL, fit, veqL, veq, sbin, sun, nilB, cellsV, oneB, okC, vals, fillV, partsE, Int.reduceLE, Int.reduceLT, Int.reduceToNat, Nat.reduceAdd, Nat.reduceEqDiff, Nat.reduceLT, Nat.reduceLeDiff, Nat.reduceMul, Nat.reduceSub, reduceCtorEq, tbAFb11, Try.results94]
      exact ret_done (by simp [cmpVal, orL, cmpI_eq0.2 e1, cmpI_eq0, e2])
  · simp only [↓ruleA0, ↓ruleA1, ↓ruleA2, ruleB0, ruleB1, ruleB2, ruleB3, ruleL, ↓retK, ncall, Todo_eq, packV, eqTB, litB, litV, fitL, fit, veqL, veq, sbin, sun, nilB, cellsV, oneB, okC, vals, fillV, partsE, Int.reduceLE, Int.reduceLT, Int.reduceToNat, Nat.reduceAdd, Nat.reduceEqDiff, Nat.reduceLT, Nat.reduceLeDiff, Nat.reduceMul, Nat.reduceSub, reduceCtorEq, tbAFb11, Try.results94, h1, h2, e1]
    refine OkF_of _ (ord05_ok a.kind b.kind) ?_
    simp only [↓ruleA0, ↓ruleA1, ↓ruleA2, ruleB0, ruleB1, ruleB2, ruleB3, ruleL, ↓retK, ncall, Todo_eq, packV, eqTB, litB, litV, fitL, fit, veqL, veq, sbin, sun, nilB, cellsV, oneB, okC, vals, fillV, partsE, Int.reduceLE, Int.reduceLT, Int.reduceToNat, Nat.reduceAdd, Nat.reduceEqDiff, Nat.reduceLT, Nat.reduceLeDiff, Nat.reduceMul, Nat.reduceSub, reduceCtorEq, tbAFb11, Try.results94]
    exact ret_done (by simp [cmpVal, orL, cmpI_eq0, e1])
theorem cmpL_drop : ∀ (l m : List Val) (i : Nat) (hi : i < l.length) (hj : i < m.length), cmpL (l.drop i) (m.drop i) = if cmpVal l[i] m[i] = 0 then cmpL (l.drop (i + 1)) (m.drop (i + 1)) else cmpVal l[i] m[i] := fun l m i hi hj => by
  rw [List.drop_eq_getElem_cons hi, List.drop_eq_getElem_cons hj, cmpL]
set_option linter.defProp false in
def tbAFb12 := (And.intro (And.intro (And.intro (And.intro (And.intro Ty.sz3 Ty.by3) (And.intro Ty.ag3 Ty.zr3)) (And.intro (And.intro Ty.un3 Ty.sz4) (And.intro Ty.by4 (And.intro Ty.ag4 Ty.zr4)))) (And.intro (And.intro (And.intro Ty.un4 Ty.sz9) (And.intro Ty.by9 Ty.ag9)) (And.intro (And.intro Ty.zr9 Ty.un9) (And.intro Ty.sz54 (And.intro Ty.by54 Ty.ag54))))) (And.intro (And.intro (And.intro (And.intro Ty.zr54 Ty.un54) (And.intro Ty.sz109 Ty.by109)) (And.intro (And.intro Ty.ag109 Ty.zr109) (And.intro Ty.fl109_0 (And.intro Ty.pl109_0 Ty.fl109_1)))) (And.intro (And.intro (And.intro Ty.pl109_1 Ty.fl109_2) (And.intro Ty.pl109_2 Ty.sz119)) (And.intro (And.intro Ty.by119 Ty.ag119) (And.intro Ty.zr119 (And.intro Ty.eq109 Ty.cb88))))))
theorem compareFunc_ok (l m : List Val) (hl : l.length ≤ 9223372036854775807) (hm : m.length ≤ 9223372036854775807) :
    OkP Try.prog 87 [vVals l, vVals m, .lit (.func (.func 88) #[] #[])] (vint (cmpL l m)) := by
  refine Ok.of_ex Ty.mixed Try.func87 rfl (by simp [Try.ntmps87]) (by kernel_rfl) fun F w0 I0 => ?_
  simp only [↓ruleA0, ↓ruleA1, ↓ruleA2, ruleB0, ruleB1, ruleB2, ruleB3, ruleL, ↓retK, ncall, Todo_eq, packV, eqTB, litB, litV, fitL, fit, veqL, veq, sbin, sun, nilB, cellsV, oneB, okC, vals, fillV, partsE, Int.reduceLE, Int.reduceLT, Int.reduceToNat, Nat.reduceAdd, Nat.reduceEqDiff, Nat.reduceLT, Nat.reduceLeDiff, Nat.reduceMul, Nat.reduceSub, reduceCtorEq, tbAFb12, Try.results87, List.length_map]
  refine EX_for Ty.mixed (by kernel_rfl) l.length (fun i S => (i ≤ m.length ∧ cmpL l m = cmpL (l.drop i) (m.drop i)) ∧ S.σ 0 = vVals l ∧ S.σ 1 = vVals m ∧ S.σ 2 = .lit (.func (.func 88) #[] #[]) ∧ S.σ 11 = vVals l ∧ S.σ 12 = vint l.length ∧ S.σ 13 = vint i ∧ S.boxes = [] ∧ S.rows = []) ⟨0, ?_⟩
    (fun i S hi ⟨⟨him, ho⟩, g0, g1, g2, g11, g12, g13, gb, gr⟩ => ?_) (fun S ⟨⟨him, ho⟩, g0, g1, g2, g11, g12, g13, gb, gr⟩ => ?_)
  · simp only [↓ruleA0, ↓ruleA1, ↓ruleA2, ruleB0, ruleB1, ruleB2, ruleB3, ruleL, ↓retK, ncall, Todo_eq, packV, eqTB, litB, litV, fitL, fit, veqL, veq, sbin, sun, nilB, cellsV, oneB, okC, vals, fillV, partsE, Int.reduceLE, Int.reduceLT, Int.reduceToNat, Nat.reduceAdd, Nat.reduceEqDiff, Nat.reduceLT, Nat.reduceLeDiff, Nat.reduceMul, Nat.reduceSub, reduceCtorEq, tbAFb12, Try.results87]
    try simp
  · by_cases him' : i < m.length
    · have hd := cmpL_drop l m i hi him'
      have hge : ¬ (m.length ≤ i) := by omega
      simp only [↓ruleA0, ↓ruleA1, ↓ruleA2, ruleB0, ruleB1, ruleB2, ruleB3, ruleL, ↓retK, ncall, Todo_eq, packV, eqTB, litB, litV, fitL, fit, veqL, veq, sbin, sun, nilB, cellsV, oneB, okC, vals, fillV, partsE, Int.reduceLE, Int.reduceLT, Int.reduceToNat, Nat.reduceAdd, Nat.reduceEqDiff, Nat.reduceLT, Nat.reduceLeDiff, Nat.reduceMul, Nat.reduceSub, reduceCtorEq, tbAFb12, Try.results87, g0, g1, g2, g11, g12, g13, gb, gr, Int.ofNat_lt, Int.ofNat_le, hi, List.length_map, getD_map]
      refine fun b1 h1 => ?_; replace h1 := newb h1; try simp only [Nb] at h1
      simp only [↓ruleA0, ↓ruleA1, ↓ruleA2, ruleB0, ruleB1, ruleB2, ruleB3, ruleL, ↓retK, ncall, Todo_eq, packV, eqTB, litB, litV, fitL, fit, veqL, veq, sbin, sun, nilB, cellsV, oneB, okC, vals, fillV, partsE, Int.reduceLE, Int.reduceLT, Int.reduceToNat, Nat.reduceAdd, Nat.reduceEqDiff, Nat.reduceLT, Nat.reduceLeDiff, Nat.reduceMul, Nat.reduceSub, reduceCtorEq, tbAFb12, Try.results87, g0, g1, g2, g11, g12, g13, gb, gr, h1, Int.ofNat_lt, Int.ofNat_le, hi, hge, him', List.length_map, getD_map]
      refine fun b2 h2 => ?_; replace h2 := newb h2; try simp only [Nb] at h2
      simp only [↓ruleA0, ↓ruleA1, ↓ruleA2, ruleB0, ruleB1, ruleB2, ruleB3, ruleL, ↓retK, ncall, Todo_eq, packV, eqTB, litB, litV, fitL, fit, veqL, veq, sbin, sun, nilB, cellsV, oneB, okC, vals, fillV, partsE, Int.reduceLE, Int.reduceLT, Int.reduceToNat, Nat.reduceAdd, Nat.reduceEqDiff, Nat.reduceLT, Nat.reduceLeDiff, Nat.reduceMul, Nat.reduceSub, reduceCtorEq, tbAFb12, Try.results87, g0, g1, g2, g11, g12, g13, gb, gr, h1, h2, Int.ofNat_lt, Int.ofNat_le, hi, him', List.length_map, getD_map]
      refine OkF_of _ (cmpVal_ok l[i] m[i]) ?_
      by_cases h0 : cmpVal l[i] m[i] = 0
      · simp only [↓ruleA0, ↓ruleA1, ↓ruleA2, ruleB0, ruleB1, ruleB2, ruleB3, ruleL, ↓retK, ncall, Todo_eq, packV, eqTB, litB, litV, fitL, fit, veqL, veq, sbin, sun, nilB, cellsV, oneB, okC, vals, fillV, partsE, Int.reduceLE, Int.reduceLT, Int.reduceToNat, Nat.reduceAdd, Nat.reduceEqDiff, Nat.reduceLT, Nat.reduceLeDiff, Nat.reduceMul, Nat.reduceSub, reduceCtorEq, tbAFb12, Try.results87, g0, g1, g2, g11, g12, g13, gb, gr, h0, wrap_succ hi hl]
        exact ⟨2, ⟨by omega, by rw [ho, hd, if_pos h0]⟩, rfl⟩
      · simp only [↓ruleA0, ↓ruleA1, ↓ruleA2, ruleB0, ruleB1, ruleB2, ruleB3, ruleL, ↓retK, ncall, Todo_eq, packV, eqTB, litB, litV, fitL, fit, veqL, veq, sbin, sun, nilB, cellsV, oneB, okC, vals, fillV, partsE, Int.reduceLE, Int.reduceLT, Int.reduceToNat, Nat.reduceAdd, Nat.reduceEqDiff, Nat.reduceLT, Nat.reduceLeDiff, Nat.reduceMul, Nat.reduceSub, reduceCtorEq, tbAFb12, Try.results87, g0, g1, g2, g11, g12, g13, gb, gr, h0]
        exact ret_done (by rw [ho, hd, if_neg h0])
    · have hge : m.length ≤ i := by omega
      simp only [↓ruleA0, ↓ruleA1, ↓ruleA2, ruleB0, ruleB1, ruleB2, ruleB3, ruleL, ↓retK, ncall, Todo_eq, packV, eqTB, litB, litV, fitL, fit, veqL, veq, sbin, sun, nilB, cellsV, oneB, okC, vals, fillV, partsE, Int.reduceLE, Int.reduceLT, Int.reduceToNat, Nat.reduceAdd, Nat.reduceEqDiff, Nat.reduceLT, Nat.reduceLeDiff, Nat.reduceMul, Nat.reduceSub, reduceCtorEq, tbAFb12, Try.results87, g0, g1, g2, g11, g12, g13, gb, gr, Int.ofNat_lt, Int.ofNat_le, hi, List.length_map, getD_map]
      refine fun b1 h1 => ?_; replace h1 := newb h1; try simp only [Nb] at h1
      simp only [↓ruleA0, ↓ruleA1, ↓ruleA2, ruleB0, ruleB1, ruleB2, ruleB3, ruleL, ↓retK, ncall, Todo_eq, packV, eqTB, litB, litV, fitL, fit, veqL, veq, sbin, sun, nilB, cellsV, oneB, okC, vals, fillV, partsE, Int.reduceLE, Int.reduceLT, Int.reduceToNat, Nat.reduceAdd, Nat.reduceEqDiff, Nat.reduceLT, Nat.reduceLeDiff, Nat.reduceMul, Nat.reduceSub, reduceCtorEq, tbAFb12, Try.results87, g0, g1, g2, g11, g12, g13, gb, gr, h1, Int.ofNat_lt, Int.ofNat_le, hi, hge, List.length_map, getD_map]
      exact ret_done (by rw [ho, List.drop_eq_getElem_cons hi, List.drop_of_length_le hge, cmpL])
  · by_cases hlm : l.length < m.length
    · simp only [↓ruleA0, ↓ruleA1, ↓ruleA2, ruleB0, ruleB1, ruleB2, ruleB3, ruleL, ↓retK, ncall, Todo_eq, packV, eqTB, litB, litV, fitL, fit, veqL, veq, sbin, sun, nilB, cellsV, oneB, okC, vals, fillV, partsE, Int.reduceLE, Int.reduceLT, Int.reduceToNat, Nat.reduceAdd, Nat.reduceEqDiff, Nat.reduceLT, Nat.reduceLeDiff, Nat.reduceMul, Nat.reduceSub, reduceCtorEq, tbAFb12, Try.results87, g0, g1, g2, g11, g12, g13, gb, gr, Int.ofNat_lt, Nat.lt_irrefl, List.length_map, hlm]
      exact ret_done (by rw [ho, List.drop_eq_getElem_cons hlm, List.drop_of_length_le (Nat.le_refl _), cmpL])
    · simp only [↓ruleA0, ↓ruleA1, ↓ruleA2, ruleB0, ruleB1, ruleB2, ruleB3, ruleL, ↓retK, ncall, Todo_eq, packV, eqTB, litB, litV, fitL, fit, veqL, veq, sbin, sun, nilB, cellsV, oneB, okC, vals, fillV, partsE, Int.reduceLE, Int.reduceLT, Int.reduceToNat, Nat.reduceAdd, Nat.reduceEqDiff, Nat.reduceLT, Nat.reduceLeDiff, Nat.reduceMul, Nat.reduceSub, reduceCtorEq, tbAFb12, Try.results87, g0, g1, g2, g11, g12, g13, gb, gr, Int.ofNat_lt, Nat.lt_irrefl, List.length_map, hlm]
      exact ret_done (by rw [ho, List.drop_of_length_le (Nat.le_refl _), List.drop_of_length_le (by omega), cmpL])
set_option linter.defProp false in
def tbAFb13 := (And.intro (And.intro (And.intro (And.intro (And.intro (And.intro Ty.sz3 Ty.by3) (And.intro Ty.ag3 Ty.zr3)) (And.intro (And.intro Ty.un3 Ty.sz9) (And.intro Ty.by9 Ty.ag9))) (And.intro (And.intro (And.intro Ty.zr9 Ty.un9) (And.intro Ty.sz53 Ty.by53)) (And.intro (And.intro Ty.ag53 Ty.zr53) (And.intro Ty.fl53_0 (And.intro Ty.pl53_0 Ty.fl53_1))))) (And.intro (And.intro (And.intro (And.intro Ty.pl53_1 Ty.sz54) (And.intro Ty.by54 Ty.ag54)) (And.intro (And.intro Ty.zr54 Ty.un54) (And.intro Ty.sz56 Ty.by56))) (And.intro (And.intro (And.intro Ty.ag56 Ty.zr56) (And.intro Ty.fl56_0 Ty.pl56_0)) (And.intro (And.intro Ty.fl56_1 Ty.pl56_1) (And.intro Ty.fl56_2 (And.intro Ty.pl56_2 Ty.fl56_3)))))) (And.intro (And.intro (And.intro (And.intro (And.intro Ty.pl56_3 Ty.fl56_4) (And.intro Ty.pl56_4 Ty.fl56_5)) (And.intro (And.intro Ty.pl56_5 Ty.fl56_6) (And.intro Ty.pl56_6 Ty.sz98))) (And.intro (And.intro (And.intro Ty.by98 Ty.ag98) (And.intro Ty.zr98 Ty.un98)) (And.intro (And.intro Ty.sz109 Ty.by109) (And.intro Ty.ag109 (And.intro Ty.zr109 Ty.fl109_0))))) (And.intro (And.intro (And.intro (And.intro Ty.pl109_0 Ty.fl109_1) (And.intro Ty.pl109_1 Ty.fl109_2)) (And.intro (And.intro Ty.pl109_2 Ty.sz119) (And.intro Ty.by119 Ty.ag119))) (And.intro (And.intro (And.intro Ty.zr119 Ty.eq53) (And.intro Ty.eq109 Ty.cb49)) (And.intro (And.intro Ty.cb51 Ty.cb85) (And.intro Ty.cb86 (And.intro Ty.cb87 Ty.cb88)))))))
theorem cmpFull_ok (a b : Rw) (hl : a.fields.length ≤ 9223372036854775807) (hm : b.fields.length ≤ 9223372036854775807) : OkP Try.prog 74 [.agg (cRow a), .agg (cRow b)] (vint (cmpFull a b)) := by
  refine Ok.of_ex Ty.mixed Try.func74 rfl (by simp [Try.ntmps74]) (by kernel_rfl) fun F w0 I0 => ?_
  simp only [↓ruleA0, ↓ruleA1, ↓ruleA2, ruleB0, ruleB1, ruleB2, ruleB3, ruleL, ↓retK, ncall, Todo_eq, packV, eqTB, litB, litV, fitL, fit, veqL, veq, sbin, sun, nilB, cellsV, oneB, okC, vals, fillV, partsE, Int.reduceLE, Int.reduceLT, Int.reduceToNat, Nat.reduceAdd, Nat.reduceEqDiff, Nat.reduceLT, Nat.reduceLeDiff, Nat.reduceMul, Nat.reduceSub, reduceCtorEq, tbAFb13, Try.results74]
  refine fun b1 h1 => ?_; replace h1 := newb h1; try simp only [Nb] at h1
  simp only [↓ruleA0, ↓ruleA1, ↓ruleA2, ruleB0, ruleB1, ruleB2, ruleB3, ruleL, ↓retK, ncall, Todo_eq, packV, eqTB, litB, litV, fitL, fit, veqL, veq, sbin, sun, nilB, cellsV, oneB, okC, vals, fillV, partsE, Int.reduceLE, Int.reduceLT, Int.reduceToNat, Nat.reduceAdd, Nat.reduceEqDiff, Nat.reduceLT, Nat.reduceLeDiff, Nat.reduceMul, Nat.reduceSub, reduceCtorEq, tbAFb13, Try.results74]
  refine fun b2 h2 => ?_; replace h2 := newb h2; try simp only [Nb] at h2
  simp only [↓ruleA0, ↓ruleA1, ↓ruleA2, ruleB0, ruleB1, ruleB2, ruleB3, ruleL, ↓retK, ncall, Todo_eq, packV, eqTB, litB, litV, fitL, fit, veqL, veq, sbin, sun, nilB, cellsV, oneB, okC, vals, fillV, partsE, Int.reduceLE, Int.reduceLT, Int.reduceToNat, Nat.reduceAdd, Nat.reduceEqDiff, Nat.reduceLT, Nat.reduceLeDiff, Nat.reduceMul, Nat.reduceSub, reduceCtorEq, tbAFb13, Try.results74, h1, h2]
  refine CallV_of _ (cmpRow_ok a b).v ?_
  simp only [↓ruleA0, ↓ruleA1, ↓ruleA2, ruleB0, ruleB1, ruleB2, ruleB3, ruleL, ↓retK, ncall, Todo_eq, packV, eqTB, litB, litV, fitL, fit, veqL, veq, sbin, sun, nilB, cellsV, oneB, okC, vals, fillV, partsE, Int.reduceLE, Int.reduceLT, Int.reduceToNat, Nat.reduceAdd, Nat.reduceEqDiff, Nat.reduceLT, Nat.reduceLeDiff, Nat.reduceMul, Nat.reduceSub, reduceCtorEq, tbAFb13, Try.results74, h1, h2]
  refine CallV_of _ (cmpI_ok a.no b.no).v ?_
  simp only [↓ruleA0, ↓ruleA1, ↓ruleA2, ruleB0, ruleB1, ruleB2, ruleB3, ruleL, ↓retK, ncall, Todo_eq, packV, eqTB, litB, litV, fitL, fit, veqL, veq, sbin, sun, nilB, cellsV, oneB, okC, vals, fillV, partsE, Int.reduceLE, Int.reduceLT, Int.reduceToNat, Nat.reduceAdd, Nat.reduceEqDiff, Nat.reduceLT, Nat.reduceLeDiff, Nat.reduceMul, Nat.reduceSub, reduceCtorEq, tbAFb13, Try.results74, h1, h2]
  refine CallV_of _ (cmpI_ok a.tick b.tick).v ?_
  simp only [↓ruleA0, ↓ruleA1, ↓ruleA2, ruleB0, ruleB1, ruleB2, ruleB3, ruleL, ↓retK, ncall, Todo_eq, packV, eqTB, litB, litV, fitL, fit, veqL, veq, sbin, sun, nilB, cellsV, oneB, okC, vals, fillV, partsE, Int.reduceLE, Int.reduceLT, Int.reduceToNat, Nat.reduceAdd, Nat.reduceEqDiff, Nat.reduceLT, Nat.reduceLeDiff, Nat.reduceMul, Nat.reduceSub, reduceCtorEq, tbAFb13, Try.results74, h1, h2]
  refine CallV_of _ (stringsCompare_ok a.table b.table).v ?_
  simp only [↓ruleA0, ↓ruleA1, ↓ruleA2, ruleB0, ruleB1, ruleB2, ruleB3, ruleL, ↓retK, ncall, Todo_eq, packV, eqTB, litB, litV, fitL, fit, veqL, veq, sbin, sun, nilB, cellsV, oneB, okC, vals, fillV, partsE, Int.reduceLE, Int.reduceLT, Int.reduceToNat, Nat.reduceAdd, Nat.reduceEqDiff, Nat.reduceLT, Nat.reduceLeDiff, Nat.reduceMul, Nat.reduceSub, reduceCtorEq, tbAFb13, Try.results74, h1, h2]
  refine CallV_of _ (stringsCompare_ok a.key b.key).v ?_
  simp only [↓ruleA0, ↓ruleA1, ↓ruleA2, ruleB0, ruleB1, ruleB2, ruleB3, ruleL, ↓retK, ncall, Todo_eq, packV, eqTB, litB, litV, fitL, fit, veqL, veq, sbin, sun, nilB, cellsV, oneB, okC, vals, fillV, partsE, Int.reduceLE, Int.reduceLT, Int.reduceToNat, Nat.reduceAdd, Nat.reduceEqDiff, Nat.reduceLT, Nat.reduceLeDiff, Nat.reduceMul, Nat.reduceSub, reduceCtorEq, tbAFb13, Try.results74, h1, h2]
  refine CallV_of _ (compareFunc_ok a.fields b.fields hl hm).v ?_
  simp only [↓ruleA0, ↓ruleA1, ↓ruleA2, ruleB0, ruleB1, ruleB2, ruleB3, ruleL, ↓retK, ncall, Todo_eq, packV, eqTB, litB, litV, fitL, fit, veqL, veq, sbin, sun, nilB, cellsV, oneB, okC, vals, fillV, partsE, Int.reduceLE, Int.reduceLT, Int.reduceToNat, Nat.reduceAdd, Nat.reduceEqDiff, Nat.reduceLT, Nat.reduceLeDiff, Nat.reduceMul, Nat.reduceSub, reduceCtorEq, tbAFb13, Try.results74, h1, h2]
  refine CallV_of _ (or_ok [cmpRow a b, cmpI a.no b.no, cmpI a.tick b.tick, cmpS a.table b.table, cmpS a.key b.key, cmpL a.fields b.fields] (by simp)).v ?_
  simp only [↓ruleA0, ↓ruleA1, ↓ruleA2, ruleB0, ruleB1, ruleB2, ruleB3, ruleL, ↓retK, ncall, Todo_eq, packV, eqTB, litB, litV, fitL, fit, veqL, veq, sbin, sun, nilB, cellsV, oneB, okC, vals, fillV, partsE, Int.reduceLE, Int.reduceLT, Int.reduceToNat, Nat.reduceAdd, Nat.reduceEqDiff, Nat.reduceLT, Nat.reduceLeDiff, Nat.reduceMul, Nat.reduceSub, reduceCtorEq, tbAFb13, Try.results74]
  exact ret_done rfl
set_option linter.defProp false in
def tbAFb14 := (And.intro (And.intro (And.intro (And.intro (And.intro (And.intro Ty.sz3 Ty.by3) (And.intro Ty.ag3 Ty.zr3)) (And.intro (And.intro Ty.un3 Ty.sz9) (And.intro Ty.by9 (And.intro Ty.ag9 Ty.zr9)))) (And.intro (And.intro (And.intro Ty.un9 Ty.sz53) (And.intro Ty.by53 Ty.ag53)) (And.intro (And.intro Ty.zr53 Ty.fl53_0) (And.intro Ty.pl53_0 (And.intro Ty.fl53_1 Ty.pl53_1))))) (And.intro (And.intro (And.intro (And.intro Ty.sz54 Ty.by54) (And.intro Ty.ag54 Ty.zr54)) (And.intro (And.intro Ty.un54 Ty.sz56) (And.intro Ty.by56 (And.intro Ty.ag56 Ty.zr56)))) (And.intro (And.intro (And.intro Ty.fl56_0 Ty.pl56_0) (And.intro Ty.fl56_1 Ty.pl56_1)) (And.intro (And.intro Ty.fl56_2 Ty.pl56_2) (And.intro Ty.fl56_3 (And.intro Ty.pl56_3 Ty.fl56_4)))))) (And.intro (And.intro (And.intro (And.intro (And.intro Ty.pl56_4 Ty.fl56_5) (And.intro Ty.pl56_5 Ty.fl56_6)) (And.intro (And.intro Ty.pl56_6 Ty.sz61) (And.intro Ty.by61 (And.intro Ty.ag61 Ty.zr61)))) (And.intro (And.intro (And.intro Ty.fl61_0 Ty.pl61_0) (And.intro Ty.fl61_1 Ty.pl61_1)) (And.intro (And.intro Ty.fl61_2 Ty.pl61_2) (And.intro Ty.sz98 (And.intro Ty.by98 Ty.ag98))))) (And.intro (And.intro (And.intro (And.intro Ty.zr98 Ty.un98) (And.intro Ty.sz109 Ty.by109)) (And.intro (And.intro Ty.ag109 Ty.zr109) (And.intro Ty.fl109_0 (And.intro Ty.pl109_0 Ty.fl109_1)))) (And.intro (And.intro (And.intro Ty.pl109_1 Ty.fl109_2) (And.intro Ty.pl109_2 Ty.eq53)) (And.intro (And.intro Ty.eq109 Ty.cb49) (And.intro Ty.cb51 (And.intro Ty.cb74 Ty.cb88)))))))
theorem cmpD_ok (a b : Dlt) (hl : a.row.fields.length ≤ 9223372036854775807) (hm : b.row.fields.length ≤ 9223372036854775807) : OkP Try.prog 73 [.agg (cDlt a), .agg (cDlt b)] (vint (cmpD a b)) := by
  refine Ok.of_ex Ty.mixed Try.func73 rfl (by simp [Try.ntmps73]) (by kernel_rfl) fun F w0 I0 => ?_
  simp only [↓ruleA0, ↓ruleA1, ↓ruleA2, ruleB0, ruleB1, ruleB2, ruleB3, ruleL, ↓retK, ncall, Todo_eq, packV, eqTB, litB, litV, fitL, fit, veqL, veq, sbin, sun, nilB, cellsV, oneB, okC, vals, fillV, partsE, Int.reduceLE, Int.reduceLT, Int.reduceToNat, Nat.reduceAdd, Nat.reduceEqDiff, Nat.reduceLT, Nat.reduceLeDiff, Nat.reduceMul, Nat.reduceSub, reduceCtorEq, tbAFb14, Try.results73]
  refine fun b1 h1 => ?_; replace h1 := newb h1; try simp only [Nb] at h1
  simp only [↓ruleA0, ↓ruleA1, ↓ruleA2, ruleB0, ruleB1, ruleB2, ruleB3, ruleL, ↓retK, ncall, Todo_eq, packV, eqTB, litB, litV, fitL, fit, veqL, veq, sbin, sun, nilB, cellsV, oneB, okC, vals, fillV, partsE, Int.reduceLE, Int.reduceLT, Int.reduceToNat, Nat.reduceAdd, Nat.reduceEqDiff, Nat.reduceLT, Nat.reduceLeDiff, Nat.reduceMul, Nat.reduceSub, reduceCtorEq, tbAFb14, Try.results73]
  refine fun b2 h2 => ?_; replace h2 := newb h2; try simp only [Nb] at h2
  simp only [↓ruleA0, ↓ruleA1, ↓ruleA2, ruleB0, ruleB1, ruleB2, ruleB3, ruleL, ↓retK, ncall, Todo_eq, packV, eqTB, litB, litV, fitL, fit, veqL, veq, sbin, sun, nilB, cellsV, oneB, okC, vals, fillV, partsE, Int.reduceLE, Int.reduceLT, Int.reduceToNat, Nat.reduceAdd, Nat.reduceEqDiff, Nat.reduceLT, Nat.reduceLeDiff, Nat.reduceMul, Nat.reduceSub, reduceCtorEq, tbAFb14, Try.results73, h1, h2]
  refine CallV_of _ (cmpI_ok a.tick b.tick).v ?_
  simp only [↓ruleA0, ↓ruleA1, ↓ruleA2, ruleB0, ruleB1, ruleB2, ruleB3, ruleL, ↓retK, ncall, Todo_eq, packV, eqTB, litB, litV, fitL, fit, veqL, veq, sbin, sun, nilB, cellsV, oneB, okC, vals, fillV, partsE, Int.reduceLE, Int.reduceLT, Int.reduceToNat, Nat.reduceAdd, Nat.reduceEqDiff, Nat.reduceLT, Nat.reduceLeDiff, Nat.reduceMul, Nat.reduceSub, reduceCtorEq, tbAFb14, Try.results73, h1, h2]
  refine CallV_of _ (cmpFull_ok a.row b.row hl hm).v ?_
  simp only [↓ruleA0, ↓ruleA1, ↓ruleA2, ruleB0, ruleB1, ruleB2, ruleB3, ruleL, ↓retK, ncall, Todo_eq, packV, eqTB, litB, litV, fitL, fit, veqL, veq, sbin, sun, nilB, cellsV, oneB, okC, vals, fillV, partsE, Int.reduceLE, Int.reduceLT, Int.reduceToNat, Nat.reduceAdd, Nat.reduceEqDiff, Nat.reduceLT, Nat.reduceLeDiff, Nat.reduceMul, Nat.reduceSub, reduceCtorEq, tbAFb14, Try.results73, h1, h2]
  refine CallV_of _ (or_ok [cmpI a.tick b.tick, cmpFull a.row b.row] (by simp)).v ?_
  simp only [↓ruleA0, ↓ruleA1, ↓ruleA2, ruleB0, ruleB1, ruleB2, ruleB3, ruleL, ↓retK, ncall, Todo_eq, packV, eqTB, litB, litV, fitL, fit, veqL, veq, sbin, sun, nilB, cellsV, oneB, okC, vals, fillV, partsE, Int.reduceLE, Int.reduceLT, Int.reduceToNat, Nat.reduceAdd, Nat.reduceEqDiff, Nat.reduceLT, Nat.reduceLeDiff, Nat.reduceMul, Nat.reduceSub, reduceCtorEq, tbAFb14, Try.results73]
  exact ret_done rfl
end Go.Proofs.Ytopfanlkbepemaa

/- Arrangements: contracts, part c: equality of lists; small functions. -/
set_option linter.unusedSimpArgs false
set_option maxRecDepth 100000
namespace Go.Proofs.Ytopfanlkbepemaa
open Go.VL Go.Ar Go.Proofs.Ytopfanlkbepemaa

theorem ext_take {α : Type} {l m : List α} (hl : l.length = m.length) (h : ∀ j, j < l.length → l[j]? = m[j]?) : l = m := by
  refine List.ext_getElem? fun j => ?_
  by_cases hj : j < l.length
  · exact h j hj
  · rw [List.getElem?_eq_none (by omega), List.getElem?_eq_none (by omega)]
theorem ne_at {α : Type} {l m : List α} {i : Nat} (hi : i < l.length) (hj : i < m.length) (h : ¬ l[i] = m[i]) : ¬ l = m := fun e => by subst e; exact h rfl
theorem sofar {α : Type} {l m : List α} {i : Nat} (hi : i < l.length) (hj : i < m.length) (h : l[i] = m[i]) (hs : ∀ j, j < i → l[j]? = m[j]?) : ∀ j, j < i + 1 → l[j]? = m[j]? := fun j hj' => by
  by_cases e : j = i
  · subst e; rw [List.getElem?_eq_getElem hi, List.getElem?_eq_getElem hj, h]
  · exact hs j (by omega)

set_option linter.defProp false in
def tbAFc0 := (And.intro (And.intro (And.intro (And.intro Ty.sz3 (And.intro Ty.by3 Ty.ag3)) (And.intro (And.intro Ty.zr3 Ty.un3) (And.intro Ty.sz4 Ty.by4))) (And.intro (And.intro (And.intro Ty.ag4 Ty.zr4) (And.intro Ty.un4 Ty.sz9)) (And.intro (And.intro Ty.by9 Ty.ag9) (And.intro Ty.zr9 Ty.un9)))) (And.intro (And.intro (And.intro (And.intro Ty.sz54 Ty.by54) (And.intro Ty.ag54 Ty.zr54)) (And.intro (And.intro Ty.un54 Ty.sz109) (And.intro Ty.by109 Ty.ag109))) (And.intro (And.intro (And.intro Ty.zr109 Ty.fl109_0) (And.intro Ty.pl109_0 Ty.fl109_1)) (And.intro (And.intro Ty.pl109_1 Ty.fl109_2) (And.intro Ty.pl109_2 Ty.eq109)))))
theorem sameFields_ok (l m : List Val) (hl : l.length ≤ 9223372036854775807) : OkP Try.prog 61 [vVals l, vVals m] (vbool (decide (l = m))) := by
  refine Ok.of_ex Ty.mixed Try.func61 rfl (by simp [Try.ntmps61]) (by kernel_rfl) fun F w0 I0 => ?_
  by_cases he : l.length = m.length
  · simp only [↓ruleA0, ↓ruleA1, ↓ruleA2, ruleB0, ruleB1, ruleB2, ruleB3, ruleL, ↓retK, ncall, Todo_eq, packV, eqTB, litB, litV, fitL, fit, veqL, veq, sbin, sun, nilB, cellsV, oneB, okC, vals, fillV, partsE, Int.reduceLE, Int.reduceLT, Int.reduceToNat, Nat.reduceAdd, Nat.reduceEqDiff, Nat.reduceLT, Nat.reduceLeDiff, Nat.reduceMul, Nat.reduceSub, reduceCtorEq, tbAFc0, Try.results61, List.length_map, he]
    refine EX_for Ty.mixed (by kernel_rfl) l.length (fun i S => (∀ j, j < i → l[j]? = m[j]?) ∧ S.σ 0 = vVals l ∧ S.σ 1 = vVals m ∧ S.σ 5 = vint i ∧ S.boxes = []) ⟨0, ?_⟩ (fun i S hi ⟨ho, g0, g1, g5, gb⟩ => ?_) (fun S ⟨ho, g0, g1, g5, gb⟩ => ?_)
    · simp only [↓ruleA0, ↓ruleA1, ↓ruleA2, ruleB0, ruleB1, ruleB2, ruleB3, ruleL, ↓retK, ncall, Todo_eq, packV, eqTB, litB, litV, fitL, fit, veqL, veq, sbin, sun, nilB, cellsV, oneB, okC, vals, fillV, partsE, Int.reduceLE, Int.reduceLT, Int.reduceToNat, Nat.reduceAdd, Nat.reduceEqDiff, Nat.reduceLT, Nat.reduceLeDiff, Nat.reduceMul, Nat.reduceSub, reduceCtorEq, tbAFc0, Try.results61]
      try simp
    · have hj : i < m.length := by omega
      simp only [↓ruleA0, ↓ruleA1, ↓ruleA2, ruleB0, ruleB1, ruleB2, ruleB3, ruleL, ↓retK, ncall, Todo_eq, packV, eqTB, litB, litV, fitL, fit, veqL, veq, sbin, sun, nilB, cellsV, oneB, okC, vals, fillV, partsE, Int.reduceLE, Int.reduceLT, Int.reduceToNat, Nat.reduceAdd, Nat.reduceEqDiff, Nat.reduceLT, Nat.reduceLeDiff, Nat.reduceMul, Nat.reduceSub, reduceCtorEq, tbAFc0, Try.results61, g0, g1, g5, gb, Int.ofNat_lt, hi, hj, List.length_map, getD_map]
      refine onCond_splitb (fun hc => ?_) (fun hc => ?_)
      · have : ¬ l[i] = m[i] := fun e => by rw [e] at hc; simp at hc
        simp only [↓ruleA0, ↓ruleA1, ↓ruleA2, ruleB0, ruleB1, ruleB2, ruleB3, ruleL, ↓retK, ncall, Todo_eq, packV, eqTB, litB, litV, fitL, fit, veqL, veq, sbin, sun, nilB, cellsV, oneB, okC, vals, fillV, partsE, Int.reduceLE, Int.reduceLT, Int.reduceToNat, Nat.reduceAdd, Nat.reduceEqDiff, Nat.reduceLT, Nat.reduceLeDiff, Nat.reduceMul, Nat.reduceSub, reduceCtorEq, tbAFc0, Try.results61]
        exact ret_done (by simp [ne_at hi hj this])
      · have : l[i] = m[i] := by
          generalize l[i] = x at hc; generalize m[i] = y at hc
          cases x; cases y; simp at hc; simp_all
        simp only [↓ruleA0, ↓ruleA1, ↓ruleA2, ruleB0, ruleB1, ruleB2, ruleB3, ruleL, ↓retK, ncall, Todo_eq, packV, eqTB, litB, litV, fitL, fit, veqL, veq, sbin, sun, nilB, cellsV, oneB, okC, vals, fillV, partsE, Int.reduceLE, Int.reduceLT, Int.reduceToNat, Nat.reduceAdd, Nat.reduceEqDiff, Nat.reduceLT, Nat.reduceLeDiff, Nat.reduceMul, Nat.reduceSub, reduceCtorEq, tbAFc0, Try.results61, g0, g1, g5, gb, wrap_succ hi hl]
        exact ⟨0, sofar hi hj this ho⟩
    · simp only [↓ruleA0, ↓ruleA1, ↓ruleA2, ruleB0, ruleB1, ruleB2, ruleB3, ruleL, ↓retK, ncall, Todo_eq, packV, eqTB, litB, litV, fitL, fit, veqL, veq, sbin, sun, nilB, cellsV, oneB, okC, vals, fillV, partsE, Int.reduceLE, Int.reduceLT, Int.reduceToNat, Nat.reduceAdd, Nat.reduceEqDiff, Nat.reduceLT, Nat.reduceLeDiff, Nat.reduceMul, Nat.reduceSub, reduceCtorEq, tbAFc0, Try.results61, g0, g1, g5, gb, Int.ofNat_lt, Nat.lt_irrefl, List.length_map]
      exact ret_done (by simp [ext_take he ho])
  · have hi : ¬ ((l.length : Int) = m.length) := by omega
    simp only [↓ruleA0, ↓ruleA1, ↓ruleA2, ruleB0, ruleB1, ruleB2, ruleB3, ruleL, ↓retK, ncall, Todo_eq, packV, eqTB, litB, litV, fitL, fit, veqL, veq, sbin, sun, nilB, cellsV, oneB, okC, vals, fillV, partsE, Int.reduceLE, Int.reduceLT, Int.reduceToNat, Nat.reduceAdd, Nat.reduceEqDiff, Nat.reduceLT, Nat.reduceLeDiff, Nat.reduceMul, Nat.reduceSub, reduceCtorEq, tbAFc0, Try.results61, List.length_map, hi]
    exact ret_done (by simp [show ¬ l = m from fun e => he (by rw [e])])
set_option linter.defProp false in
def tbAFc1 := (And.intro (And.intro (And.intro (And.intro Ty.sz3 (And.intro Ty.by3 Ty.ag3)) (And.intro (And.intro Ty.zr3 Ty.un3) (And.intro Ty.sz4 Ty.by4))) (And.intro (And.intro (And.intro Ty.ag4 Ty.zr4) (And.intro Ty.un4 Ty.sz9)) (And.intro (And.intro Ty.by9 Ty.ag9) (And.intro Ty.zr9 Ty.un9)))) (And.intro (And.intro (And.intro (And.intro Ty.sz54 Ty.by54) (And.intro Ty.ag54 Ty.zr54)) (And.intro (And.intro Ty.un54 Ty.sz109) (And.intro Ty.by109 Ty.ag109))) (And.intro (And.intro (And.intro Ty.zr109 Ty.fl109_0) (And.intro Ty.pl109_0 Ty.fl109_1)) (And.intro (And.intro Ty.pl109_1 Ty.fl109_2) (And.intro Ty.pl109_2 Ty.eq109)))))
theorem equalVals_ok (l m : List Val) (hl : l.length ≤ 9223372036854775807) : OkP Try.prog 75 [vVals l, vVals m] (vbool (decide (l = m))) := by
  refine Ok.of_ex Ty.mixed Try.func75 rfl (by simp [Try.ntmps75]) (by kernel_rfl) fun F w0 I0 => ?_
  by_cases he : l.length = m.length
  · simp only [↓ruleA0, ↓ruleA1, ↓ruleA2, ruleB0, ruleB1, ruleB2, ruleB3, ruleL, ↓retK, ncall, Todo_eq, packV, eqTB, litB, litV, fitL, fit, veqL, veq, sbin, sun, nilB, cellsV, oneB, okC, vals, fillV, partsE, Int.reduceLE, Int.reduceLT, Int.reduceToNat, Nat.reduceAdd, Nat.reduceEqDiff, Nat.reduceLT, Nat.reduceLeDiff, Nat.reduceMul, Nat.reduceSub, reduceCtorEq, tbAFc1, Try.results75, List.length_map, he]
    refine EX_for Ty.mixed (by kernel_rfl) l.length (fun i S => (∀ j, j < i → l[j]? = m[j]?) ∧ S.σ 0 = vVals l ∧ S.σ 1 = vVals m ∧ S.σ 12 = vint l.length ∧ S.σ 13 = vint i ∧ S.boxes = []) ⟨0, ?_⟩ (fun i S hi ⟨ho, g0, g1, g12, g13, gb⟩ => ?_) (fun S ⟨ho, g0, g1, g12, g13, gb⟩ => ?_)
    · simp only [↓ruleA0, ↓ruleA1, ↓ruleA2, ruleB0, ruleB1, ruleB2, ruleB3, ruleL, ↓retK, ncall, Todo_eq, packV, eqTB, litB, litV, fitL, fit, veqL, veq, sbin, sun, nilB, cellsV, oneB, okC, vals, fillV, partsE, Int.reduceLE, Int.reduceLT, Int.reduceToNat, Nat.reduceAdd, Nat.reduceEqDiff, Nat.reduceLT, Nat.reduceLeDiff, Nat.reduceMul, Nat.reduceSub, reduceCtorEq, tbAFc1, Try.results75, he]
      try simp
    · have hj : i < m.length := by omega
      simp only [↓ruleA0, ↓ruleA1, ↓ruleA2, ruleB0, ruleB1, ruleB2, ruleB3, ruleL, ↓retK, ncall, Todo_eq, packV, eqTB, litB, litV, fitL, fit, veqL, veq, sbin, sun, nilB, cellsV, oneB, okC, vals, fillV, partsE, Int.reduceLE, Int.reduceLT, Int.reduceToNat, Nat.reduceAdd, Nat.reduceEqDiff, Nat.reduceLT, Nat.reduceLeDiff, Nat.reduceMul, Nat.reduceSub, reduceCtorEq, tbAFc1, Try.results75, g0, g1, g12, g13, gb, Int.ofNat_lt, hi, hj, List.length_map, getD_map]
      refine onCond_splitb (fun hc => ?_) (fun hc => ?_)
      · have : ¬ l[i] = m[i] := fun e => by rw [e] at hc; simp at hc
        simp only [↓ruleA0, ↓ruleA1, ↓ruleA2, ruleB0, ruleB1, ruleB2, ruleB3, ruleL, ↓retK, ncall, Todo_eq, packV, eqTB, litB, litV, fitL, fit, veqL, veq, sbin, sun, nilB, cellsV, oneB, okC, vals, fillV, partsE, Int.reduceLE, Int.reduceLT, Int.reduceToNat, Nat.reduceAdd, Nat.reduceEqDiff, Nat.reduceLT, Nat.reduceLeDiff, Nat.reduceMul, Nat.reduceSub, reduceCtorEq, tbAFc1, Try.results75]
        exact ret_done (by simp [ne_at hi hj this])
      · have : l[i] = m[i] := by
          generalize l[i] = x at hc; generalize m[i] = y at hc
          cases x; cases y; simp at hc; simp_all
        simp only [↓ruleA0, ↓ruleA1, ↓ruleA2, ruleB0, ruleB1, ruleB2, ruleB3, ruleL, ↓retK, ncall, Todo_eq, packV, eqTB, litB, litV, fitL, fit, veqL, veq, sbin, sun, nilB, cellsV, oneB, okC, vals, fillV, partsE, Int.reduceLE, Int.reduceLT, Int.reduceToNat, Nat.reduceAdd, Nat.reduceEqDiff, Nat.reduceLT, Nat.reduceLeDiff, Nat.reduceMul, Nat.reduceSub, reduceCtorEq, tbAFc1, Try.results75, g0, g1, g12, g13, gb, wrap_succ hi hl]
        exact ⟨0, sofar hi hj this ho⟩
    · simp only [↓ruleA0, ↓ruleA1, ↓ruleA2, ruleB0, ruleB1, ruleB2, ruleB3, ruleL, ↓retK, ncall, Todo_eq, packV, eqTB, litB, litV, fitL, fit, veqL, veq, sbin, sun, nilB, cellsV, oneB, okC, vals, fillV, partsE, Int.reduceLE, Int.reduceLT, Int.reduceToNat, Nat.reduceAdd, Nat.reduceEqDiff, Nat.reduceLT, Nat.reduceLeDiff, Nat.reduceMul, Nat.reduceSub, reduceCtorEq, tbAFc1, Try.results75, g0, g1, g12, g13, gb, Int.ofNat_lt, Nat.lt_irrefl, List.length_map]
      exact ret_done (by simp [ext_take he ho])
  · have hi : ¬ ((l.length : Int) = m.length) := by omega
    simp only [↓ruleA0, ↓ruleA1, ↓ruleA2, ruleB0, ruleB1, ruleB2, ruleB3, ruleL, ↓retK, ncall, Todo_eq, packV, eqTB, litB, litV, fitL, fit, veqL, veq, sbin, sun, nilB, cellsV, oneB, okC, vals, fillV, partsE, Int.reduceLE, Int.reduceLT, Int.reduceToNat, Nat.reduceAdd, Nat.reduceEqDiff, Nat.reduceLT, Nat.reduceLeDiff, Nat.reduceMul, Nat.reduceSub, reduceCtorEq, tbAFc1, Try.results75, List.length_map, hi]
    exact ret_done (by simp [show ¬ l = m from fun e => he (by rw [e])])
set_option linter.defProp false in
def tbAFc2 := (And.intro (And.intro (And.intro (And.intro (And.intro Ty.sz3 (And.intro Ty.by3 Ty.ag3)) (And.intro (And.intro Ty.zr3 Ty.un3) (And.intro Ty.sz4 Ty.by4))) (And.intro (And.intro Ty.ag4 (And.intro Ty.zr4 Ty.un4)) (And.intro (And.intro Ty.sz9 Ty.by9) (And.intro Ty.ag9 Ty.zr9)))) (And.intro (And.intro (And.intro Ty.un9 (And.intro Ty.sz53 Ty.by53)) (And.intro (And.intro Ty.ag53 Ty.zr53) (And.intro Ty.fl53_0 Ty.pl53_0))) (And.intro (And.intro (And.intro Ty.fl53_1 Ty.pl53_1) (And.intro Ty.sz54 Ty.by54)) (And.intro (And.intro Ty.ag54 Ty.zr54) (And.intro Ty.un54 Ty.sz56))))) (And.intro (And.intro (And.intro (And.intro Ty.by56 (And.intro Ty.ag56 Ty.zr56)) (And.intro (And.intro Ty.fl56_0 Ty.pl56_0) (And.intro Ty.fl56_1 Ty.pl56_1))) (And.intro (And.intro (And.intro Ty.fl56_2 Ty.pl56_2) (And.intro Ty.fl56_3 Ty.pl56_3)) (And.intro (And.intro Ty.fl56_4 Ty.pl56_4) (And.intro Ty.fl56_5 Ty.pl56_5)))) (And.intro (And.intro (And.intro Ty.fl56_6 (And.intro Ty.pl56_6 Ty.sz109)) (And.intro (And.intro Ty.by109 Ty.ag109) (And.intro Ty.zr109 Ty.fl109_0))) (And.intro (And.intro (And.intro Ty.pl109_0 Ty.fl109_1) (And.intro Ty.pl109_1 Ty.fl109_2)) (And.intro (And.intro Ty.pl109_2 Ty.eq53) (And.intro Ty.eq109 Ty.cb61))))))
theorem sameRow_ok (a b : Rw) (hl : a.fields.length ≤ 9223372036854775807) : OkP Try.prog 39 [.agg (cRow a), .agg (cRow b)] (vbool (decide (a = b))) := by
  refine Ok.of_ex Ty.mixed Try.func39 rfl (by simp [Try.ntmps39]) (by kernel_rfl) fun F w0 I0 => ?_
  have ext : a = b ↔ (a.id.src = b.id.src ∧ a.id.seq = b.id.seq) ∧ a.table = b.table ∧ a.key = b.key ∧ a.event = b.event ∧ a.fields = b.fields ∧ a.no = b.no ∧ a.tick = b.tick := by
    cases a with | mk i1 _ _ _ _ _ _ => cases b with | mk i2 _ _ _ _ _ _ => cases i1; cases i2; simp
  simp only [↓ruleA0, ↓ruleA1, ↓ruleA2, ruleB0, ruleB1, ruleB2, ruleB3, ruleL, ↓retK, ncall, Todo_eq, packV, eqTB, litB, litV, fitL, fit, veqL, veq, sbin, sun, nilB, cellsV, oneB, okC, vals, fillV, partsE, Int.reduceLE, Int.reduceLT, Int.reduceToNat, Nat.reduceAdd, Nat.reduceEqDiff, Nat.reduceLT, Nat.reduceLeDiff, Nat.reduceMul, Nat.reduceSub, reduceCtorEq, tbAFc2, Try.results39]
  refine fun b1 h1 => ?_; replace h1 := newb h1; try simp only [Nb] at h1
  simp only [↓ruleA0, ↓ruleA1, ↓ruleA2, ruleB0, ruleB1, ruleB2, ruleB3, ruleL, ↓retK, ncall, Todo_eq, packV, eqTB, litB, litV, fitL, fit, veqL, veq, sbin, sun, nilB, cellsV, oneB, okC, vals, fillV, partsE, Int.reduceLE, Int.reduceLT, Int.reduceToNat, Nat.reduceAdd, Nat.reduceEqDiff, Nat.reduceLT, Nat.reduceLeDiff, Nat.reduceMul, Nat.reduceSub, reduceCtorEq, tbAFc2, Try.results39]
  refine fun b2 h2 => ?_; replace h2 := newb h2; try simp only [Nb] at h2
  have fin : ∀ x : Bool, (x = true ↔ a = b) → vbool x = vbool (decide (a = b)) := fun x hx => by
    congr 2; rw [Bool.eq_iff_iff, hx, decide_eq_true_eq]
  by_cases e1 : a.id.src = b.id.src ∧ a.id.seq = b.id.seq
  · by_cases e2 : a.table = b.table
    · by_cases e3 : a.key = b.key
      · by_cases e4 : a.event = b.event
        · simp only [↓ruleA0, ↓ruleA1, ↓ruleA2, ruleB0, ruleB1, ruleB2, ruleB3, ruleL, ↓retK, ncall, Todo_eq, packV, eqTB, litB, litV, fitL, fit, veqL, veq, sbin, sun, nilB, cellsV, oneB, okC, vals, fillV, partsE, Int.reduceLE, Int.reduceLT, Int.reduceToNat, Nat.reduceAdd, Nat.reduceEqDiff, Nat.reduceLT, Nat.reduceLeDiff, Nat.reduceMul, Nat.reduceSub, reduceCtorEq, tbAFc2, Try.results39, h1, h2, e1, e2, e3, e4]
          refine OkF_of _ (sameFields_ok a.fields b.fields hl) ?_
          by_cases e5 : a.fields = b.fields
          · by_cases e6 : a.no = b.no
            · simp only [↓ruleA0, ↓ruleA1, ↓ruleA2, ruleB0, ruleB1, ruleB2, ruleB3, ruleL, ↓retK, ncall, Todo_eq, packV, eqTB, litB, litV, fitL, fit, veqL, veq, sbin, sun, nilB, cellsV, oneB, okC, vals, fillV, partsE, Int.reduceLE, Int.reduceLT, Int.reduceToNat, Nat.reduceAdd, Nat.reduceEqDiff, Nat.reduceLT, Nat.reduceLeDiff, Nat.reduceMul, Nat.reduceSub, reduceCtorEq, tbAFc2, Try.results39, h1, h2, e5, e6]
              exact ret_done (fin _ (by rw [ext]; simp [e1, e2, e3, e4, e5, e6]))
            · simp only [↓ruleA0, ↓ruleA1, ↓ruleA2, ruleB0, ruleB1, ruleB2, ruleB3, ruleL, ↓retK, ncall, Todo_eq, packV, eqTB, litB, litV, fitL, fit, veqL, veq, sbin, sun, nilB, cellsV, oneB, okC, vals, fillV, partsE, Int.reduceLE, Int.reduceLT, Int.reduceToNat, Nat.reduceAdd, Nat.reduceEqDiff, Nat.reduceLT, Nat.reduceLeDiff, Nat.reduceMul, Nat.reduceSub, reduceCtorEq, tbAFc2, Try.results39, h1, h2, e5, e6]
              exact ret_done (fin _ (by rw [ext]; simp [e6]))
          · simp only [↓ruleA0, ↓ruleA1, ↓ruleA2, ruleB0, ruleB1, ruleB2, ruleB3, ruleL, ↓retK, ncall, Todo_eq, packV, eqTB, litB, litV, fitL, fit, veqL, veq, sbin, sun, nilB, cellsV, oneB, okC, vals, fillV, partsE, Int.reduceLE, Int.reduceLT, Int.reduceToNat, Nat.reduceAdd, Nat.reduceEqDiff, Nat.reduceLT, Nat.reduceLeDiff, Nat.reduceMul, Nat.reduceSub, reduceCtorEq, tbAFc2, Try.results39, h1, h2, e5]
            exact ret_done (fin _ (by rw [ext]; simp [e5]))
        · simp only [↓ruleA0, ↓ruleA1, ↓ruleA2, ruleB0, ruleB1, ruleB2, ruleB3, ruleL, ↓retK, ncall, Todo_eq, packV, eqTB, litB, litV, fitL, fit, veqL, veq, sbin, sun, nilB, cellsV, oneB, okC, vals, fillV, partsE, Int.reduceLE, Int.reduceLT, Int.reduceToNat, Nat.reduceAdd, Nat.reduceEqDiff, Nat.reduceLT, Nat.reduceLeDiff, Nat.reduceMul, Nat.reduceSub, reduceCtorEq, tbAFc2, Try.results39, h1, h2, e1, e2, e3, e4]
          exact ret_done (fin _ (by rw [ext]; simp [e4]))
      · simp only [↓ruleA0, ↓ruleA1, ↓ruleA2, ruleB0, ruleB1, ruleB2, ruleB3, ruleL, ↓retK, ncall, Todo_eq, packV, eqTB, litB, litV, fitL, fit, veqL, veq, sbin, sun, nilB, cellsV, oneB, okC, vals, fillV, partsE, Int.reduceLE, Int.reduceLT, Int.reduceToNat, Nat.reduceAdd, Nat.reduceEqDiff, Nat.reduceLT, Nat.reduceLeDiff, Nat.reduceMul, Nat.reduceSub, reduceCtorEq, tbAFc2, Try.results39, h1, h2, e1, e2, e3]
        exact ret_done (fin _ (by rw [ext]; simp [e3]))
    · simp only [↓ruleA0, ↓ruleA1, ↓ruleA2, ruleB0, ruleB1, ruleB2, ruleB3, ruleL, ↓retK, ncall, Todo_eq, packV, eqTB, litB, litV, fitL, fit, veqL, veq, sbin, sun, nilB, cellsV, oneB, okC, vals, fillV, partsE, Int.reduceLE, Int.reduceLT, Int.reduceToNat, Nat.reduceAdd, Nat.reduceEqDiff, Nat.reduceLT, Nat.reduceLeDiff, Nat.reduceMul, Nat.reduceSub, reduceCtorEq, tbAFc2, Try.results39, h1, h2, e1, e2]
      exact ret_done (fin _ (by rw [ext]; simp [e2]))
  · have hf : (decide (a.id.src = b.id.src) && decide (a.id.seq = b.id.seq)) = false := by
      rw [Bool.eq_false_iff]; simpa using e1
    simp only [↓ruleA0, ↓ruleA1, ↓ruleA2, ruleB0, ruleB1, ruleB2, ruleB3, ruleL, ↓retK, ncall, Todo_eq, packV, eqTB, litB, litV, fitL, fit, veqL, veq, sbin, sun, nilB, cellsV, oneB, okC, vals, fillV, partsE, Int.reduceLE, Int.reduceLT, Int.reduceToNat, Nat.reduceAdd, Nat.reduceEqDiff, Nat.reduceLT, Nat.reduceLeDiff, Nat.reduceMul, Nat.reduceSub, reduceCtorEq, tbAFc2, Try.results39, h1, h2, hf]
    exact ret_done (fin _ (by rw [ext]; simp [e1]))
theorem ret_with {v x : V} {bs : List (Nat × B)} {rs : List VL.Row} {Q : V → List (Nat × B) → List VL.Row → Prop} (h : Le v x) (hq : Q x bs []) : ∃ w bs' rs', Le v w ∧ bs'.Sublist bs ∧ rs'.Sublist rs ∧ Q w bs' rs' :=
  ⟨x, bs, [], h, List.Sublist.refl _, List.nil_sublist _, hq⟩

def okF (r : Rw) : Prop := r.fields.length ≤ 9223372036854775807

set_option linter.defProp false in
def tbAFc3 := (And.intro (And.intro (And.intro (And.intro (And.intro (And.intro Ty.sz3 Ty.by3) (And.intro Ty.ag3 Ty.zr3)) (And.intro (And.intro Ty.un3 Ty.sz4) (And.intro Ty.by4 Ty.ag4))) (And.intro (And.intro (And.intro Ty.zr4 Ty.un4) (And.intro Ty.sz9 Ty.by9)) (And.intro (And.intro Ty.ag9 Ty.zr9) (And.intro Ty.un9 Ty.sz32)))) (And.intro (And.intro (And.intro (And.intro Ty.by32 Ty.ag32) (And.intro Ty.zr32 Ty.un32)) (And.intro (And.intro Ty.sz53 Ty.by53) (And.intro Ty.ag53 Ty.zr53))) (And.intro (And.intro (And.intro Ty.fl53_0 Ty.pl53_0) (And.intro Ty.fl53_1 Ty.pl53_1)) (And.intro (And.intro Ty.sz54 Ty.by54) (And.intro Ty.ag54 Ty.zr54))))) (And.intro (And.intro (And.intro (And.intro (And.intro Ty.un54 Ty.sz56) (And.intro Ty.by56 Ty.ag56)) (And.intro (And.intro Ty.zr56 Ty.fl56_0) (And.intro Ty.pl56_0 Ty.fl56_1))) (And.intro (And.intro (And.intro Ty.pl56_1 Ty.fl56_2) (And.intro Ty.pl56_2 Ty.fl56_3)) (And.intro (And.intro Ty.pl56_3 Ty.fl56_4) (And.intro Ty.pl56_4 Ty.fl56_5)))) (And.intro (And.intro (And.intro (And.intro Ty.pl56_5 Ty.fl56_6) (And.intro Ty.pl56_6 Ty.sz109)) (And.intro (And.intro Ty.by109 Ty.ag109) (And.intro Ty.zr109 Ty.fl109_0))) (And.intro (And.intro (And.intro Ty.pl109_0 Ty.fl109_1) (And.intro Ty.pl109_1 Ty.fl109_2)) (And.intro (And.intro Ty.pl109_2 Ty.eq53) (And.intro Ty.eq109 Ty.cb39))))))
theorem sameRows_ok (l m : List Rw) (hl : l.length ≤ 9223372036854775807) (hf : ∀ r ∈ l, okF r) : OkP Try.prog 15 [vRows l, vRows m] (vbool (decide (l = m))) := by
  refine Ok.of_ex Ty.mixed Try.func15 rfl (by simp [Try.ntmps15]) (by kernel_rfl) fun F w0 I0 => ?_
  by_cases he : l.length = m.length
  · simp only [↓ruleA0, ↓ruleA1, ↓ruleA2, ruleB0, ruleB1, ruleB2, ruleB3, ruleL, ↓retK, ncall, Todo_eq, packV, eqTB, litB, litV, fitL, fit, veqL, veq, sbin, sun, nilB, cellsV, oneB, okC, vals, fillV, partsE, Int.reduceLE, Int.reduceLT, Int.reduceToNat, Nat.reduceAdd, Nat.reduceEqDiff, Nat.reduceLT, Nat.reduceLeDiff, Nat.reduceMul, Nat.reduceSub, reduceCtorEq, tbAFc3, Try.results15, List.length_map, he]
    refine EX_for Ty.mixed (by kernel_rfl) l.length (fun i S => (∀ j, j < i → l[j]? = m[j]?) ∧ S.σ 0 = vRows l ∧ S.σ 1 = vRows m ∧ S.σ 5 = vint i ∧ S.boxes = [] ∧ S.rows = []) ⟨0, ?_⟩ (fun i S hi ⟨ho, g0, g1, g5, gb, gr⟩ => ?_) (fun S ⟨ho, g0, g1, g5, gb, gr⟩ => ?_)
    · simp only [↓ruleA0, ↓ruleA1, ↓ruleA2, ruleB0, ruleB1, ruleB2, ruleB3, ruleL, ↓retK, ncall, Todo_eq, packV, eqTB, litB, litV, fitL, fit, veqL, veq, sbin, sun, nilB, cellsV, oneB, okC, vals, fillV, partsE, Int.reduceLE, Int.reduceLT, Int.reduceToNat, Nat.reduceAdd, Nat.reduceEqDiff, Nat.reduceLT, Nat.reduceLeDiff, Nat.reduceMul, Nat.reduceSub, reduceCtorEq, tbAFc3, Try.results15]
      try simp
    · have hj : i < m.length := by omega
      simp only [↓ruleA0, ↓ruleA1, ↓ruleA2, ruleB0, ruleB1, ruleB2, ruleB3, ruleL, ↓retK, ncall, Todo_eq, packV, eqTB, litB, litV, fitL, fit, veqL, veq, sbin, sun, nilB, cellsV, oneB, okC, vals, fillV, partsE, Int.reduceLE, Int.reduceLT, Int.reduceToNat, Nat.reduceAdd, Nat.reduceEqDiff, Nat.reduceLT, Nat.reduceLeDiff, Nat.reduceMul, Nat.reduceSub, reduceCtorEq, tbAFc3, Try.results15, g0, g1, g5, gb, gr, Int.ofNat_lt, hi, hj, List.length_map, getD_map]
      refine CallV_of _ (sameRow_ok l[i] m[i] (hf _ (List.getElem_mem hi))).v ?_
      by_cases hc : l[i] = m[i]
      · simp only [↓ruleA0, ↓ruleA1, ↓ruleA2, ruleB0, ruleB1, ruleB2, ruleB3, ruleL, ↓retK, ncall, Todo_eq, packV, eqTB, litB, litV, fitL, fit, veqL, veq, sbin, sun, nilB, cellsV, oneB, okC, vals, fillV, partsE, Int.reduceLE, Int.reduceLT, Int.reduceToNat, Nat.reduceAdd, Nat.reduceEqDiff, Nat.reduceLT, Nat.reduceLeDiff, Nat.reduceMul, Nat.reduceSub, reduceCtorEq, tbAFc3, Try.results15, g0, g1, g5, gb, gr, hc, wrap_succ hi hl]
        exact ⟨0, sofar hi hj hc ho⟩
      · simp only [↓ruleA0, ↓ruleA1, ↓ruleA2, ruleB0, ruleB1, ruleB2, ruleB3, ruleL, ↓retK, ncall, Todo_eq, packV, eqTB, litB, litV, fitL, fit, veqL, veq, sbin, sun, nilB, cellsV, oneB, okC, vals, fillV, partsE, Int.reduceLE, Int.reduceLT, Int.reduceToNat, Nat.reduceAdd, Nat.reduceEqDiff, Nat.reduceLT, Nat.reduceLeDiff, Nat.reduceMul, Nat.reduceSub, reduceCtorEq, tbAFc3, Try.results15, g0, g1, g5, gb, gr, hc]
        exact ret_done (by simp [ne_at hi hj hc])
    · simp only [↓ruleA0, ↓ruleA1, ↓ruleA2, ruleB0, ruleB1, ruleB2, ruleB3, ruleL, ↓retK, ncall, Todo_eq, packV, eqTB, litB, litV, fitL, fit, veqL, veq, sbin, sun, nilB, cellsV, oneB, okC, vals, fillV, partsE, Int.reduceLE, Int.reduceLT, Int.reduceToNat, Nat.reduceAdd, Nat.reduceEqDiff, Nat.reduceLT, Nat.reduceLeDiff, Nat.reduceMul, Nat.reduceSub, reduceCtorEq, tbAFc3, Try.results15, g0, g1, g5, gb, gr, Int.ofNat_lt, Nat.lt_irrefl, List.length_map]
      exact ret_done (by simp [ext_take he ho])
  · have hi : ¬ ((l.length : Int) = m.length) := by omega
    simp only [↓ruleA0, ↓ruleA1, ↓ruleA2, ruleB0, ruleB1, ruleB2, ruleB3, ruleL, ↓retK, ncall, Todo_eq, packV, eqTB, litB, litV, fitL, fit, veqL, veq, sbin, sun, nilB, cellsV, oneB, okC, vals, fillV, partsE, Int.reduceLE, Int.reduceLT, Int.reduceToNat, Nat.reduceAdd, Nat.reduceEqDiff, Nat.reduceLT, Nat.reduceLeDiff, Nat.reduceMul, Nat.reduceSub, reduceCtorEq, tbAFc3, Try.results15, List.length_map, hi]
    exact ret_done (by simp [show ¬ l = m from fun e => he (by rw [e])])
set_option linter.defProp false in
def tbAFc4 := (And.intro (And.intro (And.intro (And.intro Ty.sz3 Ty.by3) (And.intro Ty.ag3 (And.intro Ty.zr3 Ty.un3))) (And.intro (And.intro Ty.sz4 Ty.by4) (And.intro Ty.ag4 (And.intro Ty.zr4 Ty.un4)))) (And.intro (And.intro (And.intro Ty.sz9 Ty.by9) (And.intro Ty.ag9 (And.intro Ty.zr9 Ty.un9))) (And.intro (And.intro Ty.sz35 Ty.by35) (And.intro Ty.ag35 (And.intro Ty.zr35 Ty.un35)))))
theorem sameKeys_ok (l m : List Str) (hl : l.length ≤ 9223372036854775807) : OkP Try.prog 16 [vstrs l, vstrs m] (vbool (decide (l = m))) := by
  refine Ok.of_ex Ty.mixed Try.func16 rfl (by simp [Try.ntmps16]) (by kernel_rfl) fun F w0 I0 => ?_
  by_cases he : l.length = m.length
  · simp only [↓ruleA0, ↓ruleA1, ↓ruleA2, ruleB0, ruleB1, ruleB2, ruleB3, ruleL, ↓retK, ncall, Todo_eq, packV, eqTB, litB, litV, fitL, fit, veqL, veq, sbin, sun, nilB, cellsV, oneB, okC, vals, fillV, partsE, Int.reduceLE, Int.reduceLT, Int.reduceToNat, Nat.reduceAdd, Nat.reduceEqDiff, Nat.reduceLT, Nat.reduceLeDiff, Nat.reduceMul, Nat.reduceSub, reduceCtorEq, tbAFc4, Try.results16, List.length_map, he]
    refine EX_for Ty.mixed (by kernel_rfl) l.length (fun i S => (∀ j, j < i → l[j]? = m[j]?) ∧ S.σ 0 = vstrs l ∧ S.σ 1 = vstrs m ∧ S.σ 5 = vint i ∧ S.boxes = [] ∧ S.rows = []) ⟨0, ?_⟩ (fun i S hi ⟨ho, g0, g1, g5, gb, gr⟩ => ?_) (fun S ⟨ho, g0, g1, g5, gb, gr⟩ => ?_)
    · simp only [↓ruleA0, ↓ruleA1, ↓ruleA2, ruleB0, ruleB1, ruleB2, ruleB3, ruleL, ↓retK, ncall, Todo_eq, packV, eqTB, litB, litV, fitL, fit, veqL, veq, sbin, sun, nilB, cellsV, oneB, okC, vals, fillV, partsE, Int.reduceLE, Int.reduceLT, Int.reduceToNat, Nat.reduceAdd, Nat.reduceEqDiff, Nat.reduceLT, Nat.reduceLeDiff, Nat.reduceMul, Nat.reduceSub, reduceCtorEq, tbAFc4, Try.results16]
      try simp
    · have hj : i < m.length := by omega
      by_cases hc : l[i] = m[i]
      · simp only [↓ruleA0, ↓ruleA1, ↓ruleA2, ruleB0, ruleB1, ruleB2, ruleB3, ruleL, ↓retK, ncall, Todo_eq, packV, eqTB, litB, litV, fitL, fit, veqL, veq, sbin, sun, nilB, cellsV, oneB, okC, vals, fillV, partsE, Int.reduceLE, Int.reduceLT, Int.reduceToNat, Nat.reduceAdd, Nat.reduceEqDiff, Nat.reduceLT, Nat.reduceLeDiff, Nat.reduceMul, Nat.reduceSub, reduceCtorEq, tbAFc4, Try.results16, g0, g1, g5, gb, gr, Int.ofNat_lt, hi, hj, List.length_map, getD_map, hc, wrap_succ hi hl]
        exact ⟨0, sofar hi hj hc ho⟩
      · simp only [↓ruleA0, ↓ruleA1, ↓ruleA2, ruleB0, ruleB1, ruleB2, ruleB3, ruleL, ↓retK, ncall, Todo_eq, packV, eqTB, litB, litV, fitL, fit, veqL, veq, sbin, sun, nilB, cellsV, oneB, okC, vals, fillV, partsE, Int.reduceLE, Int.reduceLT, Int.reduceToNat, Nat.reduceAdd, Nat.reduceEqDiff, Nat.reduceLT, Nat.reduceLeDiff, Nat.reduceMul, Nat.reduceSub, reduceCtorEq, tbAFc4, Try.results16, g0, g1, g5, gb, gr, Int.ofNat_lt, hi, hj, List.length_map, getD_map, hc]
        exact ret_done (by simp [ne_at hi hj hc])
    · simp only [↓ruleA0, ↓ruleA1, ↓ruleA2, ruleB0, ruleB1, ruleB2, ruleB3, ruleL, ↓retK, ncall, Todo_eq, packV, eqTB, litB, litV, fitL, fit, veqL, veq, sbin, sun, nilB, cellsV, oneB, okC, vals, fillV, partsE, Int.reduceLE, Int.reduceLT, Int.reduceToNat, Nat.reduceAdd, Nat.reduceEqDiff, Nat.reduceLT, Nat.reduceLeDiff, Nat.reduceMul, Nat.reduceSub, reduceCtorEq, tbAFc4, Try.results16, g0, g1, g5, gb, gr, Int.ofNat_lt, Nat.lt_irrefl, List.length_map]
      exact ret_done (by simp [ext_take he ho])
  · have hi : ¬ ((l.length : Int) = m.length) := by omega
    simp only [↓ruleA0, ↓ruleA1, ↓ruleA2, ruleB0, ruleB1, ruleB2, ruleB3, ruleL, ↓retK, ncall, Todo_eq, packV, eqTB, litB, litV, fitL, fit, veqL, veq, sbin, sun, nilB, cellsV, oneB, okC, vals, fillV, partsE, Int.reduceLE, Int.reduceLT, Int.reduceToNat, Nat.reduceAdd, Nat.reduceEqDiff, Nat.reduceLT, Nat.reduceLeDiff, Nat.reduceMul, Nat.reduceSub, reduceCtorEq, tbAFc4, Try.results16, List.length_map, hi]
    exact ret_done (by simp [show ¬ l = m from fun e => he (by rw [e])])
theorem dlt_ext {a b : Dlt} : a = b ↔ a.tick = b.tick ∧ a.n = b.n ∧ a.row = b.row := by
  cases a; cases b; simp; constructor <;> (intro h; simp [h])
set_option linter.defProp false in
def tbAFc5 := (And.intro (And.intro (And.intro (And.intro (And.intro (And.intro Ty.sz3 Ty.by3) (And.intro Ty.ag3 Ty.zr3)) (And.intro (And.intro Ty.un3 Ty.sz4) (And.intro Ty.by4 (And.intro Ty.ag4 Ty.zr4)))) (And.intro (And.intro (And.intro Ty.un4 Ty.sz9) (And.intro Ty.by9 Ty.ag9)) (And.intro (And.intro Ty.zr9 Ty.un9) (And.intro Ty.sz41 (And.intro Ty.by41 Ty.ag41))))) (And.intro (And.intro (And.intro (And.intro Ty.zr41 Ty.un41) (And.intro Ty.sz53 Ty.by53)) (And.intro (And.intro Ty.ag53 Ty.zr53) (And.intro Ty.fl53_0 (And.intro Ty.pl53_0 Ty.fl53_1)))) (And.intro (And.intro (And.intro Ty.pl53_1 Ty.sz54) (And.intro Ty.by54 (And.intro Ty.ag54 Ty.zr54))) (And.intro (And.intro Ty.un54 Ty.sz56) (And.intro Ty.by56 (And.intro Ty.ag56 Ty.zr56)))))) (And.intro (And.intro (And.intro (And.intro (And.intro Ty.fl56_0 Ty.pl56_0) (And.intro Ty.fl56_1 Ty.pl56_1)) (And.intro (And.intro Ty.fl56_2 Ty.pl56_2) (And.intro Ty.fl56_3 (And.intro Ty.pl56_3 Ty.fl56_4)))) (And.intro (And.intro (And.intro Ty.pl56_4 Ty.fl56_5) (And.intro Ty.pl56_5 Ty.fl56_6)) (And.intro (And.intro Ty.pl56_6 Ty.sz61) (And.intro Ty.by61 (And.intro Ty.ag61 Ty.zr61))))) (And.intro (And.intro (And.intro (And.intro Ty.fl61_0 Ty.pl61_0) (And.intro Ty.fl61_1 Ty.pl61_1)) (And.intro (And.intro Ty.fl61_2 Ty.pl61_2) (And.intro Ty.sz109 (And.intro Ty.by109 Ty.ag109)))) (And.intro (And.intro (And.intro Ty.zr109 Ty.fl109_0) (And.intro Ty.pl109_0 (And.intro Ty.fl109_1 Ty.pl109_1))) (And.intro (And.intro Ty.fl109_2 Ty.pl109_2) (And.intro Ty.eq53 (And.intro Ty.eq109 Ty.cb39)))))))
theorem sameDeltas_ok (l m : List Dlt) (hl : l.length ≤ 9223372036854775807) (hf : ∀ r ∈ l, okF r.row) : OkP Try.prog 42 [vDlts l, vDlts m] (vbool (decide (l = m))) := by
  refine Ok.of_ex Ty.mixed Try.func42 rfl (by simp [Try.ntmps42]) (by kernel_rfl) fun F w0 I0 => ?_
  by_cases he : l.length = m.length
  · simp only [↓ruleA0, ↓ruleA1, ↓ruleA2, ruleB0, ruleB1, ruleB2, ruleB3, ruleL, ↓retK, ncall, Todo_eq, packV, eqTB, litB, litV, fitL, fit, veqL, veq, sbin, sun, nilB, cellsV, oneB, okC, vals, fillV, partsE, Int.reduceLE, Int.reduceLT, Int.reduceToNat, Nat.reduceAdd, Nat.reduceEqDiff, Nat.reduceLT, Nat.reduceLeDiff, Nat.reduceMul, Nat.reduceSub, reduceCtorEq, tbAFc5, Try.results42, List.length_map, he]
    refine EX_for Ty.mixed (by kernel_rfl) l.length (fun i S => (∀ j, j < i → l[j]? = m[j]?) ∧ S.σ 0 = vDlts l ∧ S.σ 1 = vDlts m ∧ S.σ 5 = vint i ∧ S.boxes = [] ∧ S.rows = []) ⟨0, ?_⟩ (fun i S hi ⟨ho, g0, g1, g5, gb, gr⟩ => ?_) (fun S ⟨ho, g0, g1, g5, gb, gr⟩ => ?_)
    · simp only [↓ruleA0, ↓ruleA1, ↓ruleA2, ruleB0, ruleB1, ruleB2, ruleB3, ruleL, ↓retK, ncall, Todo_eq, packV, eqTB, litB, litV, fitL, fit, veqL, veq, sbin, sun, nilB, cellsV, oneB, okC, vals, fillV, partsE, Int.reduceLE, Int.reduceLT, Int.reduceToNat, Nat.reduceAdd, Nat.reduceEqDiff, Nat.reduceLT, Nat.reduceLeDiff, Nat.reduceMul, Nat.reduceSub, reduceCtorEq, tbAFc5, Try.results42]
      try simp
    · have hj : i < m.length := by omega
      have bad : ¬ l[i] = m[i] → vbool false = vbool (decide (l = m)) := fun h => by simp [ne_at hi hj h]
      by_cases h1 : l[i].tick = m[i].tick
      · by_cases h2 : l[i].n = m[i].n
        · simp only [↓ruleA0, ↓ruleA1, ↓ruleA2, ruleB0, ruleB1, ruleB2, ruleB3, ruleL, ↓retK, ncall, Todo_eq, packV, eqTB, litB, litV, fitL, fit, veqL, veq, sbin, sun, nilB, cellsV, oneB, okC, vals, fillV, partsE, Int.reduceLE, Int.reduceLT, Int.reduceToNat, Nat.reduceAdd, Nat.reduceEqDiff, Nat.reduceLT, Nat.reduceLeDiff, Nat.reduceMul, Nat.reduceSub, reduceCtorEq, tbAFc5, Try.results42, g0, g1, g5, gb, gr, Int.ofNat_lt, hi, hj, List.length_map, getD_map, h1, h2]
          refine CallV_of _ (sameRow_ok l[i].row m[i].row (hf _ (List.getElem_mem hi))).v ?_
          by_cases hc : l[i].row = m[i].row
          · simp only [↓ruleA0, ↓ruleA1, ↓ruleA2, ruleB0, ruleB1, ruleB2, ruleB3, ruleL, ↓retK, ncall, Todo_eq, packV, eqTB, litB, litV, fitL, fit, veqL, veq, sbin, sun, nilB, cellsV, oneB, okC, vals, fillV, partsE, Int.reduceLE, Int.reduceLT, Int.reduceToNat, Nat.reduceAdd, Nat.reduceEqDiff, Nat.reduceLT, Nat.reduceLeDiff, Nat.reduceMul, Nat.reduceSub, reduceCtorEq, tbAFc5, Try.results42, g0, g1, g5, gb, gr, hc, wrap_succ hi hl]
            exact ⟨0, sofar hi hj (dlt_ext.2 ⟨h1, h2, hc⟩) ho⟩
          · simp only [↓ruleA0, ↓ruleA1, ↓ruleA2, ruleB0, ruleB1, ruleB2, ruleB3, ruleL, ↓retK, ncall, Todo_eq, packV, eqTB, litB, litV, fitL, fit, veqL, veq, sbin, sun, nilB, cellsV, oneB, okC, vals, fillV, partsE, Int.reduceLE, Int.reduceLT, Int.reduceToNat, Nat.reduceAdd, Nat.reduceEqDiff, Nat.reduceLT, Nat.reduceLeDiff, Nat.reduceMul, Nat.reduceSub, reduceCtorEq, tbAFc5, Try.results42, g0, g1, g5, gb, gr, hc]
            exact ret_done (bad fun e => hc (by rw [e]))
        · simp only [↓ruleA0, ↓ruleA1, ↓ruleA2, ruleB0, ruleB1, ruleB2, ruleB3, ruleL, ↓retK, ncall, Todo_eq, packV, eqTB, litB, litV, fitL, fit, veqL, veq, sbin, sun, nilB, cellsV, oneB, okC, vals, fillV, partsE, Int.reduceLE, Int.reduceLT, Int.reduceToNat, Nat.reduceAdd, Nat.reduceEqDiff, Nat.reduceLT, Nat.reduceLeDiff, Nat.reduceMul, Nat.reduceSub, reduceCtorEq, tbAFc5, Try.results42, g0, g1, g5, gb, gr, Int.ofNat_lt, hi, hj, List.length_map, getD_map, h1, h2]
          exact ret_done (bad fun e => h2 (by rw [e]))
      · simp only [↓ruleA0, ↓ruleA1, ↓ruleA2, ruleB0, ruleB1, ruleB2, ruleB3, ruleL, ↓retK, ncall, Todo_eq, packV, eqTB, litB, litV, fitL, fit, veqL, veq, sbin, sun, nilB, cellsV, oneB, okC, vals, fillV, partsE, Int.reduceLE, Int.reduceLT, Int.reduceToNat, Nat.reduceAdd, Nat.reduceEqDiff, Nat.reduceLT, Nat.reduceLeDiff, Nat.reduceMul, Nat.reduceSub, reduceCtorEq, tbAFc5, Try.results42, g0, g1, g5, gb, gr, Int.ofNat_lt, hi, hj, List.length_map, getD_map, h1]
        exact ret_done (bad fun e => h1 (by rw [e]))
    · simp only [↓ruleA0, ↓ruleA1, ↓ruleA2, ruleB0, ruleB1, ruleB2, ruleB3, ruleL, ↓retK, ncall, Todo_eq, packV, eqTB, litB, litV, fitL, fit, veqL, veq, sbin, sun, nilB, cellsV, oneB, okC, vals, fillV, partsE, Int.reduceLE, Int.reduceLT, Int.reduceToNat, Nat.reduceAdd, Nat.reduceEqDiff, Nat.reduceLT, Nat.reduceLeDiff, Nat.reduceMul, Nat.reduceSub, reduceCtorEq, tbAFc5, Try.results42, g0, g1, g5, gb, gr, Int.ofNat_lt, Nat.lt_irrefl, List.length_map]
      exact ret_done (by simp [ext_take he ho])
  · have hi : ¬ ((l.length : Int) = m.length) := by omega
    simp only [↓ruleA0, ↓ruleA1, ↓ruleA2, ruleB0, ruleB1, ruleB2, ruleB3, ruleL, ↓retK, ncall, Todo_eq, packV, eqTB, litB, litV, fitL, fit, veqL, veq, sbin, sun, nilB, cellsV, oneB, okC, vals, fillV, partsE, Int.reduceLE, Int.reduceLT, Int.reduceToNat, Nat.reduceAdd, Nat.reduceEqDiff, Nat.reduceLT, Nat.reduceLeDiff, Nat.reduceMul, Nat.reduceSub, reduceCtorEq, tbAFc5, Try.results42, List.length_map, hi]
    exact ret_done (by simp [show ¬ l = m from fun e => he (by rw [e])])

/-- An arrangement of usable size. -/
def okDs (l : List Dlt) : Prop := l.length ≤ 9223372036854775807 ∧ ∀ d ∈ l, okF d.row
def okGs (l : List Grp) : Prop := l.length ≤ 9223372036854775807 ∧ ∀ g ∈ l, okDs g.ds
theorem grp_ext {a b : Grp} : a = b ↔ a.key = b.key ∧ a.ds = b.ds := by cases a; cases b; simp
theorem arr_ext {a b : Arr} : a = b ↔ a.since = b.since ∧ a.groups = b.groups := by cases a; cases b; simp
set_option linter.defProp false in
def tbAFc6 := (And.intro (And.intro (And.intro (And.intro (And.intro (And.intro Ty.sz3 Ty.by3) (And.intro Ty.ag3 (And.intro Ty.zr3 Ty.un3))) (And.intro (And.intro Ty.sz4 (And.intro Ty.by4 Ty.ag4)) (And.intro Ty.zr4 (And.intro Ty.un4 Ty.sz9)))) (And.intro (And.intro (And.intro Ty.by9 (And.intro Ty.ag9 Ty.zr9)) (And.intro Ty.un9 (And.intro Ty.sz22 Ty.by22))) (And.intro (And.intro Ty.ag22 (And.intro Ty.zr22 Ty.un22)) (And.intro Ty.sz24 (And.intro Ty.by24 Ty.ag24))))) (And.intro (And.intro (And.intro (And.intro Ty.zr24 (And.intro Ty.fl24_0 Ty.pl24_0)) (And.intro Ty.fl24_1 (And.intro Ty.pl24_1 Ty.sz41))) (And.intro (And.intro Ty.by41 (And.intro Ty.ag41 Ty.zr41)) (And.intro Ty.un41 (And.intro Ty.sz53 Ty.by53)))) (And.intro (And.intro (And.intro Ty.ag53 (And.intro Ty.zr53 Ty.fl53_0)) (And.intro Ty.pl53_0 (And.intro Ty.fl53_1 Ty.pl53_1))) (And.intro (And.intro Ty.sz54 (And.intro Ty.by54 Ty.ag54)) (And.intro Ty.zr54 (And.intro Ty.un54 Ty.sz56)))))) (And.intro (And.intro (And.intro (And.intro (And.intro Ty.by56 (And.intro Ty.ag56 Ty.zr56)) (And.intro Ty.fl56_0 (And.intro Ty.pl56_0 Ty.fl56_1))) (And.intro (And.intro Ty.pl56_1 (And.intro Ty.fl56_2 Ty.pl56_2)) (And.intro Ty.fl56_3 (And.intro Ty.pl56_3 Ty.fl56_4)))) (And.intro (And.intro (And.intro Ty.pl56_4 (And.intro Ty.fl56_5 Ty.pl56_5)) (And.intro Ty.fl56_6 (And.intro Ty.pl56_6 Ty.sz61))) (And.intro (And.intro Ty.by61 (And.intro Ty.ag61 Ty.zr61)) (And.intro Ty.fl61_0 (And.intro Ty.pl61_0 Ty.fl61_1))))) (And.intro (And.intro (And.intro (And.intro Ty.pl61_1 (And.intro Ty.fl61_2 Ty.pl61_2)) (And.intro Ty.sz65 (And.intro Ty.by65 Ty.ag65))) (And.intro (And.intro Ty.zr65 (And.intro Ty.fl65_0 Ty.pl65_0)) (And.intro Ty.fl65_1 (And.intro Ty.pl65_1 Ty.sz109)))) (And.intro (And.intro (And.intro Ty.by109 (And.intro Ty.ag109 Ty.zr109)) (And.intro Ty.fl109_0 (And.intro Ty.pl109_0 Ty.fl109_1))) (And.intro (And.intro Ty.pl109_1 (And.intro Ty.fl109_2 Ty.pl109_2)) (And.intro Ty.eq53 (And.intro Ty.eq109 Ty.cb42)))))))
theorem same_ok (a b : Arr) (ha : okGs a.groups) : OkP Try.prog 18 [vArr a, vArr b] (vbool (decide (a = b))) := by
  refine Ok.of_ex Ty.mixed Try.func18 rfl (by simp [Try.ntmps18]) (by kernel_rfl) fun F w0 I0 => ?_
  obtain ⟨s, l⟩ := a
  obtain ⟨t, m⟩ := b
  obtain ⟨hl, hf⟩ := ha
  simp only at hl hf
  simp only [↓ruleA0, ↓ruleA1, ↓ruleA2, ruleB0, ruleB1, ruleB2, ruleB3, ruleL, ↓retK, ncall, Todo_eq, packV, eqTB, litB, litV, fitL, fit, veqL, veq, sbin, sun, nilB, cellsV, oneB, okC, vals, fillV, partsE, Int.reduceLE, Int.reduceLT, Int.reduceToNat, Nat.reduceAdd, Nat.reduceEqDiff, Nat.reduceLT, Nat.reduceLeDiff, Nat.reduceMul, Nat.reduceSub, reduceCtorEq, tbAFc6, Try.results18]
  refine fun b1 h1 => ?_; replace h1 := newb h1; try simp only [Nb] at h1
  simp only [↓ruleA0, ↓ruleA1, ↓ruleA2, ruleB0, ruleB1, ruleB2, ruleB3, ruleL, ↓retK, ncall, Todo_eq, packV, eqTB, litB, litV, fitL, fit, veqL, veq, sbin, sun, nilB, cellsV, oneB, okC, vals, fillV, partsE, Int.reduceLE, Int.reduceLT, Int.reduceToNat, Nat.reduceAdd, Nat.reduceEqDiff, Nat.reduceLT, Nat.reduceLeDiff, Nat.reduceMul, Nat.reduceSub, reduceCtorEq, tbAFc6, Try.results18]
  refine fun b2 h2 => ?_; replace h2 := newb h2; try simp only [Nb] at h2
  by_cases hs : s = t
  · subst hs
    by_cases he : l.length = m.length
    · simp only [↓ruleA0, ↓ruleA1, ↓ruleA2, ruleB0, ruleB1, ruleB2, ruleB3, ruleL, ↓retK, ncall, Todo_eq, packV, eqTB, litB, litV, fitL, fit, veqL, veq, sbin, sun, nilB, cellsV, oneB, okC, vals, fillV, partsE, Int.reduceLE, Int.reduceLT, Int.reduceToNat, Nat.reduceAdd, Nat.reduceEqDiff, Nat.reduceLT, Nat.reduceLeDiff, Nat.reduceMul, Nat.reduceSub, reduceCtorEq, tbAFc6, Try.results18, h1, h2, List.length_map, he]
      refine EX_for Ty.mixed (by kernel_rfl) l.length (fun i S => (∀ j, j < i → l[j]? = m[j]?) ∧ S.σ 2 = ptr b1 ∧ S.σ 3 = ptr b2 ∧ S.σ 5 = vint i ∧ S.boxes = [(b2, .c (cArr ⟨s, m⟩)), (b1, .c (cArr ⟨s, l⟩))] ∧ S.rows = []) ⟨0, ?_⟩ (fun i S hi ⟨ho, g2, g3, g5, gb, gr⟩ => ?_) (fun S ⟨ho, g2, g3, g5, gb, gr⟩ => ?_)
      · simp only [↓ruleA0, ↓ruleA1, ↓ruleA2, ruleB0, ruleB1, ruleB2, ruleB3, ruleL, ↓retK, ncall, Todo_eq, packV, eqTB, litB, litV, fitL, fit, veqL, veq, sbin, sun, nilB, cellsV, oneB, okC, vals, fillV, partsE, Int.reduceLE, Int.reduceLT, Int.reduceToNat, Nat.reduceAdd, Nat.reduceEqDiff, Nat.reduceLT, Nat.reduceLeDiff, Nat.reduceMul, Nat.reduceSub, reduceCtorEq, tbAFc6, Try.results18]
        try simp
      · have hj : i < m.length := by omega
        have bad : ¬ l[i] = m[i] → vbool false = vbool (decide ((⟨s, l⟩ : Arr) = ⟨s, m⟩)) := fun h => by simp [ne_at hi hj h]
        by_cases hk : l[i].key = m[i].key
        · simp only [↓ruleA0, ↓ruleA1, ↓ruleA2, ruleB0, ruleB1, ruleB2, ruleB3, ruleL, ↓retK, ncall, Todo_eq, packV, eqTB, litB, litV, fitL, fit, veqL, veq, sbin, sun, nilB, cellsV, oneB, okC, vals, fillV, partsE, Int.reduceLE, Int.reduceLT, Int.reduceToNat, Nat.reduceAdd, Nat.reduceEqDiff, Nat.reduceLT, Nat.reduceLeDiff, Nat.reduceMul, Nat.reduceSub, reduceCtorEq, tbAFc6, Try.results18, g2, g3, g5, gb, gr, h1, h2, Int.ofNat_lt, hi, hj, List.length_map, getD_map, hk]
          refine CallV_of _ (sameDeltas_ok l[i].ds m[i].ds (hf _ (List.getElem_mem hi)).1 (hf _ (List.getElem_mem hi)).2).v ?_
          by_cases hc : l[i].ds = m[i].ds
          · simp only [↓ruleA0, ↓ruleA1, ↓ruleA2, ruleB0, ruleB1, ruleB2, ruleB3, ruleL, ↓retK, ncall, Todo_eq, packV, eqTB, litB, litV, fitL, fit, veqL, veq, sbin, sun, nilB, cellsV, oneB, okC, vals, fillV, partsE, Int.reduceLE, Int.reduceLT, Int.reduceToNat, Nat.reduceAdd, Nat.reduceEqDiff, Nat.reduceLT, Nat.reduceLeDiff, Nat.reduceMul, Nat.reduceSub, reduceCtorEq, tbAFc6, Try.results18, g2, g3, g5, gb, gr, h1, h2, hc, wrap_succ hi hl]
            exact ⟨0, sofar hi hj (grp_ext.2 ⟨hk, hc⟩) ho, rfl⟩
          · simp only [↓ruleA0, ↓ruleA1, ↓ruleA2, ruleB0, ruleB1, ruleB2, ruleB3, ruleL, ↓retK, ncall, Todo_eq, packV, eqTB, litB, litV, fitL, fit, veqL, veq, sbin, sun, nilB, cellsV, oneB, okC, vals, fillV, partsE, Int.reduceLE, Int.reduceLT, Int.reduceToNat, Nat.reduceAdd, Nat.reduceEqDiff, Nat.reduceLT, Nat.reduceLeDiff, Nat.reduceMul, Nat.reduceSub, reduceCtorEq, tbAFc6, Try.results18, g2, g3, g5, gb, gr, h1, h2, hc]
            exact ret_done (bad fun e => hc (by rw [e]))
        · simp only [↓ruleA0, ↓ruleA1, ↓ruleA2, ruleB0, ruleB1, ruleB2, ruleB3, ruleL, ↓retK, ncall, Todo_eq, packV, eqTB, litB, litV, fitL, fit, veqL, veq, sbin, sun, nilB, cellsV, oneB, okC, vals, fillV, partsE, Int.reduceLE, Int.reduceLT, Int.reduceToNat, Nat.reduceAdd, Nat.reduceEqDiff, Nat.reduceLT, Nat.reduceLeDiff, Nat.reduceMul, Nat.reduceSub, reduceCtorEq, tbAFc6, Try.results18, g2, g3, g5, gb, gr, h1, h2, Int.ofNat_lt, hi, hj, List.length_map, getD_map, hk]
          exact ret_done (bad fun e => hk (by rw [e]))
      · simp only [↓ruleA0, ↓ruleA1, ↓ruleA2, ruleB0, ruleB1, ruleB2, ruleB3, ruleL, ↓retK, ncall, Todo_eq, packV, eqTB, litB, litV, fitL, fit, veqL, veq, sbin, sun, nilB, cellsV, oneB, okC, vals, fillV, partsE, Int.reduceLE, Int.reduceLT, Int.reduceToNat, Nat.reduceAdd, Nat.reduceEqDiff, Nat.reduceLT, Nat.reduceLeDiff, Nat.reduceMul, Nat.reduceSub, reduceCtorEq, tbAFc6, Try.results18, g2, g3, g5, gb, gr, h1, h2, Int.ofNat_lt, Nat.lt_irrefl, List.length_map]
        exact ret_done (by simp [ext_take he ho])
    · have hi : ¬ ((l.length : Int) = m.length) := by omega
      simp only [↓ruleA0, ↓ruleA1, ↓ruleA2, ruleB0, ruleB1, ruleB2, ruleB3, ruleL, ↓retK, ncall, Todo_eq, packV, eqTB, litB, litV, fitL, fit, veqL, veq, sbin, sun, nilB, cellsV, oneB, okC, vals, fillV, partsE, Int.reduceLE, Int.reduceLT, Int.reduceToNat, Nat.reduceAdd, Nat.reduceEqDiff, Nat.reduceLT, Nat.reduceLeDiff, Nat.reduceMul, Nat.reduceSub, reduceCtorEq, tbAFc6, Try.results18, h1, h2, List.length_map, hi]
      exact ret_done (by simp [show ¬ l = m from fun e => he (by rw [e])])
  · simp only [↓ruleA0, ↓ruleA1, ↓ruleA2, ruleB0, ruleB1, ruleB2, ruleB3, ruleL, ↓retK, ncall, Todo_eq, packV, eqTB, litB, litV, fitL, fit, veqL, veq, sbin, sun, nilB, cellsV, oneB, okC, vals, fillV, partsE, Int.reduceLE, Int.reduceLT, Int.reduceToNat, Nat.reduceAdd, Nat.reduceEqDiff, Nat.reduceLT, Nat.reduceLeDiff, Nat.reduceMul, Nat.reduceSub, reduceCtorEq, tbAFc6, Try.results18, h1, h2, hs]
    exact ret_done (by simp [hs])
set_option linter.defProp false in
def tbAFc7 := (And.intro (And.intro (And.intro (And.intro (And.intro Ty.sz3 Ty.by3) (And.intro Ty.ag3 Ty.zr3)) (And.intro (And.intro Ty.un3 Ty.sz4) (And.intro Ty.by4 Ty.ag4))) (And.intro (And.intro (And.intro Ty.zr4 Ty.un4) (And.intro Ty.sz9 Ty.by9)) (And.intro (And.intro Ty.ag9 Ty.zr9) (And.intro Ty.un9 Ty.sz54)))) (And.intro (And.intro (And.intro (And.intro Ty.by54 Ty.ag54) (And.intro Ty.zr54 Ty.un54)) (And.intro (And.intro Ty.sz109 Ty.by109) (And.intro Ty.ag109 Ty.zr109))) (And.intro (And.intro (And.intro Ty.fl109_0 Ty.pl109_0) (And.intro Ty.fl109_1 Ty.pl109_1)) (And.intro (And.intro Ty.fl109_2 Ty.pl109_2) (And.intro Ty.eq109 (And.intro Ty.cb79 Ty.cb94))))))
theorem fields20_ok (l m : List Val) (hl : l.length ≤ 9223372036854775807) : OkP Try.prog 81 [vVals l, vVals m] (vint (cmpL l m)) := by
  refine Ok.of_ex Ty.mixed Try.func81 rfl (by simp [Try.ntmps81]) (by kernel_rfl) fun F w0 I0 => ?_
  simp only [↓ruleA0, ↓ruleA1, ↓ruleA2, ruleB0, ruleB1, ruleB2, ruleB3, ruleL, ↓retK, ncall, Todo_eq, packV, eqTB, litB, litV, fitL, fit, veqL, veq, sbin, sun, nilB, cellsV, oneB, okC, vals, fillV, partsE, Int.reduceLE, Int.reduceLT, Int.reduceToNat, Nat.reduceAdd, Nat.reduceEqDiff, Nat.reduceLT, Nat.reduceLeDiff, Nat.reduceMul, Nat.reduceSub, reduceCtorEq, tbAFc7, Try.results81]
  refine EX_for Ty.mixed (by kernel_rfl) (min l.length m.length) (fun i S => cmpL l m = cmpL (l.drop i) (m.drop i) ∧ S.σ 0 = vVals l ∧ S.σ 1 = vVals m ∧ S.σ 5 = vint i ∧ S.boxes = [] ∧ S.rows = []) ⟨0, ?_⟩ (fun i S hi ⟨ho, g0, g1, g5, gb, gr⟩ => ?_) (fun S ⟨ho, g0, g1, g5, gb, gr⟩ => ?_)
  · simp only [↓ruleA0, ↓ruleA1, ↓ruleA2, ruleB0, ruleB1, ruleB2, ruleB3, ruleL, ↓retK, ncall, Todo_eq, packV, eqTB, litB, litV, fitL, fit, veqL, veq, sbin, sun, nilB, cellsV, oneB, okC, vals, fillV, partsE, Int.reduceLE, Int.reduceLT, Int.reduceToNat, Nat.reduceAdd, Nat.reduceEqDiff, Nat.reduceLT, Nat.reduceLeDiff, Nat.reduceMul, Nat.reduceSub, reduceCtorEq, tbAFc7, Try.results81]
  · have hi1 : i < l.length := by omega
    have hi2 : i < m.length := by omega
    have hd := cmpL_drop l m i hi1 hi2
    simp only [↓ruleA0, ↓ruleA1, ↓ruleA2, ruleB0, ruleB1, ruleB2, ruleB3, ruleL, ↓retK, ncall, Todo_eq, packV, eqTB, litB, litV, fitL, fit, veqL, veq, sbin, sun, nilB, cellsV, oneB, okC, vals, fillV, partsE, Int.reduceLE, Int.reduceLT, Int.reduceToNat, Nat.reduceAdd, Nat.reduceEqDiff, Nat.reduceLT, Nat.reduceLeDiff, Nat.reduceMul, Nat.reduceSub, reduceCtorEq, tbAFc7, Try.results81, g0, g1, g5, gb, gr, Int.ofNat_lt, hi1, hi2, List.length_map, getD_map]
    refine CallV_of _ (cmpVal05_ok l[i] m[i]).v ?_
    by_cases hc : cmpVal l[i] m[i] = 0
    · simp only [↓ruleA0, ↓ruleA1, ↓ruleA2, ruleB0, ruleB1, ruleB2, ruleB3, ruleL, ↓retK, ncall, Todo_eq, packV, eqTB, litB, litV, fitL, fit, veqL, veq, sbin, sun, nilB, cellsV, oneB, okC, vals, fillV, partsE, Int.reduceLE, Int.reduceLT, Int.reduceToNat, Nat.reduceAdd, Nat.reduceEqDiff, Nat.reduceLT, Nat.reduceLeDiff, Nat.reduceMul, Nat.reduceSub, reduceCtorEq, tbAFc7, Try.results81, g0, g1, g5, gb, gr, hc, wrap_succ hi1 hl]
      exact ⟨0, by rw [ho, hd, if_pos hc]⟩
    · simp only [↓ruleA0, ↓ruleA1, ↓ruleA2, ruleB0, ruleB1, ruleB2, ruleB3, ruleL, ↓retK, ncall, Todo_eq, packV, eqTB, litB, litV, fitL, fit, veqL, veq, sbin, sun, nilB, cellsV, oneB, okC, vals, fillV, partsE, Int.reduceLE, Int.reduceLT, Int.reduceToNat, Nat.reduceAdd, Nat.reduceEqDiff, Nat.reduceLT, Nat.reduceLeDiff, Nat.reduceMul, Nat.reduceSub, reduceCtorEq, tbAFc7, Try.results81, g0, g1, g5, gb, gr, hc]
      exact ret_done (by rw [ho, hd, if_neg hc])
  · have fin : cmpL l m = cmpI l.length m.length := by
      rw [ho]
      rcases Nat.lt_trichotomy l.length m.length with h | h | h
      · rw [Nat.min_eq_left (by omega), List.drop_of_length_le (Nat.le_refl _), List.drop_eq_getElem_cons h, cmpL, cmpI, if_pos (by omega)]
      · rw [Nat.min_eq_left (by omega), List.drop_of_length_le (Nat.le_refl _), h, List.drop_of_length_le (Nat.le_refl _), cmpL, cmpI, if_neg (by omega), if_neg (by omega)]
      · rw [Nat.min_eq_right (by omega), List.drop_of_length_le (l := m) (Nat.le_refl _), List.drop_eq_getElem_cons h, cmpL, cmpI, if_neg (by omega), if_pos (by omega)]
    by_cases hlm : l.length ≤ m.length
    · have e : min l.length m.length = l.length := by omega
      rw [e] at g5
      simp only [↓ruleA0, ↓ruleA1, ↓ruleA2, ruleB0, ruleB1, ruleB2, ruleB3, ruleL, ↓retK, ncall, Todo_eq, packV, eqTB, litB, litV, fitL, fit, veqL, veq, sbin, sun, nilB, cellsV, oneB, okC, vals, fillV, partsE, Int.reduceLE, Int.reduceLT, Int.reduceToNat, Nat.reduceAdd, Nat.reduceEqDiff, Nat.reduceLT, Nat.reduceLeDiff, Nat.reduceMul, Nat.reduceSub, reduceCtorEq, tbAFc7, Try.results81, g0, g1, g5, gb, gr, Int.ofNat_lt, Nat.lt_irrefl, List.length_map]
      refine OkF_of _ (ord20_ok _ _) ?_
      simp only [↓ruleA0, ↓ruleA1, ↓ruleA2, ruleB0, ruleB1, ruleB2, ruleB3, ruleL, ↓retK, ncall, Todo_eq, packV, eqTB, litB, litV, fitL, fit, veqL, veq, sbin, sun, nilB, cellsV, oneB, okC, vals, fillV, partsE, Int.reduceLE, Int.reduceLT, Int.reduceToNat, Nat.reduceAdd, Nat.reduceEqDiff, Nat.reduceLT, Nat.reduceLeDiff, Nat.reduceMul, Nat.reduceSub, reduceCtorEq, tbAFc7, Try.results81]
      exact ret_done (by rw [fin])
    · have e : min l.length m.length = m.length := by omega
      have hlt : m.length < l.length := by omega
      rw [e] at g5
      simp only [↓ruleA0, ↓ruleA1, ↓ruleA2, ruleB0, ruleB1, ruleB2, ruleB3, ruleL, ↓retK, ncall, Todo_eq, packV, eqTB, litB, litV, fitL, fit, veqL, veq, sbin, sun, nilB, cellsV, oneB, okC, vals, fillV, partsE, Int.reduceLE, Int.reduceLT, Int.reduceToNat, Nat.reduceAdd, Nat.reduceEqDiff, Nat.reduceLT, Nat.reduceLeDiff, Nat.reduceMul, Nat.reduceSub, reduceCtorEq, tbAFc7, Try.results81, g0, g1, g5, gb, gr, Int.ofNat_lt, Nat.lt_irrefl, List.length_map, hlt]
      refine OkF_of _ (ord20_ok _ _) ?_
      simp only [↓ruleA0, ↓ruleA1, ↓ruleA2, ruleB0, ruleB1, ruleB2, ruleB3, ruleL, ↓retK, ncall, Todo_eq, packV, eqTB, litB, litV, fitL, fit, veqL, veq, sbin, sun, nilB, cellsV, oneB, okC, vals, fillV, partsE, Int.reduceLE, Int.reduceLT, Int.reduceToNat, Nat.reduceAdd, Nat.reduceEqDiff, Nat.reduceLT, Nat.reduceLeDiff, Nat.reduceMul, Nat.reduceSub, reduceCtorEq, tbAFc7, Try.results81]
      exact ret_done (by rw [fin])
set_option linter.defProp false in
def tbAFc8 := (And.intro (And.intro (And.intro (And.intro (And.intro (And.intro Ty.sz3 Ty.by3) (And.intro Ty.ag3 Ty.zr3)) (And.intro (And.intro Ty.un3 Ty.sz4) (And.intro Ty.by4 Ty.ag4))) (And.intro (And.intro (And.intro Ty.zr4 Ty.un4) (And.intro Ty.sz9 Ty.by9)) (And.intro (And.intro Ty.ag9 Ty.zr9) (And.intro Ty.un9 Ty.sz53)))) (And.intro (And.intro (And.intro (And.intro Ty.by53 Ty.ag53) (And.intro Ty.zr53 Ty.fl53_0)) (And.intro (And.intro Ty.pl53_0 Ty.fl53_1) (And.intro Ty.pl53_1 Ty.sz54))) (And.intro (And.intro (And.intro Ty.by54 Ty.ag54) (And.intro Ty.zr54 Ty.un54)) (And.intro (And.intro Ty.sz56 Ty.by56) (And.intro Ty.ag56 (And.intro Ty.zr56 Ty.fl56_0)))))) (And.intro (And.intro (And.intro (And.intro (And.intro Ty.pl56_0 Ty.fl56_1) (And.intro Ty.pl56_1 Ty.fl56_2)) (And.intro (And.intro Ty.pl56_2 Ty.fl56_3) (And.intro Ty.pl56_3 Ty.fl56_4))) (And.intro (And.intro (And.intro Ty.pl56_4 Ty.fl56_5) (And.intro Ty.pl56_5 Ty.fl56_6)) (And.intro (And.intro Ty.pl56_6 Ty.sz98) (And.intro Ty.by98 (And.intro Ty.ag98 Ty.zr98))))) (And.intro (And.intro (And.intro (And.intro Ty.un98 Ty.sz109) (And.intro Ty.by109 Ty.ag109)) (And.intro (And.intro Ty.zr109 Ty.fl109_0) (And.intro Ty.pl109_0 Ty.fl109_1))) (And.intro (And.intro (And.intro Ty.pl109_1 Ty.fl109_2) (And.intro Ty.pl109_2 Ty.eq53)) (And.intro (And.intro Ty.eq109 Ty.cb78) (And.intro Ty.cb79 (And.intro Ty.cb80 Ty.cb81)))))))
theorem cmpFull20_ok (a b : Rw) (hl : okF a) : OkP Try.prog 65 [.agg (cRow a), .agg (cRow b)] (vint (cmpFull a b)) := by
  refine Ok.of_ex Ty.mixed Try.func65 rfl (by simp [Try.ntmps65]) (by kernel_rfl) fun F w0 I0 => ?_
  simp only [↓ruleA0, ↓ruleA1, ↓ruleA2, ruleB0, ruleB1, ruleB2, ruleB3, ruleL, ↓retK, ncall, Todo_eq, packV, eqTB, litB, litV, fitL, fit, veqL, veq, sbin, sun, nilB, cellsV, oneB, okC, vals, fillV, partsE, Int.reduceLE, Int.reduceLT, Int.reduceToNat, Nat.reduceAdd, Nat.reduceEqDiff, Nat.reduceLT, Nat.reduceLeDiff, Nat.reduceMul, Nat.reduceSub, reduceCtorEq, tbAFc8, Try.results65]
  refine fun b1 h1 => ?_; replace h1 := newb h1; try simp only [Nb] at h1
  simp only [↓ruleA0, ↓ruleA1, ↓ruleA2, ruleB0, ruleB1, ruleB2, ruleB3, ruleL, ↓retK, ncall, Todo_eq, packV, eqTB, litB, litV, fitL, fit, veqL, veq, sbin, sun, nilB, cellsV, oneB, okC, vals, fillV, partsE, Int.reduceLE, Int.reduceLT, Int.reduceToNat, Nat.reduceAdd, Nat.reduceEqDiff, Nat.reduceLT, Nat.reduceLeDiff, Nat.reduceMul, Nat.reduceSub, reduceCtorEq, tbAFc8, Try.results65]
  refine fun b2 h2 => ?_; replace h2 := newb h2; try simp only [Nb] at h2
  simp only [↓ruleA0, ↓ruleA1, ↓ruleA2, ruleB0, ruleB1, ruleB2, ruleB3, ruleL, ↓retK, ncall, Todo_eq, packV, eqTB, litB, litV, fitL, fit, veqL, veq, sbin, sun, nilB, cellsV, oneB, okC, vals, fillV, partsE, Int.reduceLE, Int.reduceLT, Int.reduceToNat, Nat.reduceAdd, Nat.reduceEqDiff, Nat.reduceLT, Nat.reduceLeDiff, Nat.reduceMul, Nat.reduceSub, reduceCtorEq, tbAFc8, Try.results65, h1, h2]
  refine CallV_of _ (cmpRow13_ok a b).v ?_
  simp only [↓ruleA0, ↓ruleA1, ↓ruleA2, ruleB0, ruleB1, ruleB2, ruleB3, ruleL, ↓retK, ncall, Todo_eq, packV, eqTB, litB, litV, fitL, fit, veqL, veq, sbin, sun, nilB, cellsV, oneB, okC, vals, fillV, partsE, Int.reduceLE, Int.reduceLT, Int.reduceToNat, Nat.reduceAdd, Nat.reduceEqDiff, Nat.reduceLT, Nat.reduceLeDiff, Nat.reduceMul, Nat.reduceSub, reduceCtorEq, tbAFc8, Try.results65, h1, h2]
  refine CallV_of _ (ord20_ok a.no b.no).v ?_
  simp only [↓ruleA0, ↓ruleA1, ↓ruleA2, ruleB0, ruleB1, ruleB2, ruleB3, ruleL, ↓retK, ncall, Todo_eq, packV, eqTB, litB, litV, fitL, fit, veqL, veq, sbin, sun, nilB, cellsV, oneB, okC, vals, fillV, partsE, Int.reduceLE, Int.reduceLT, Int.reduceToNat, Nat.reduceAdd, Nat.reduceEqDiff, Nat.reduceLT, Nat.reduceLeDiff, Nat.reduceMul, Nat.reduceSub, reduceCtorEq, tbAFc8, Try.results65, h1, h2]
  refine CallV_of _ (ord20_ok a.tick b.tick).v ?_
  simp only [↓ruleA0, ↓ruleA1, ↓ruleA2, ruleB0, ruleB1, ruleB2, ruleB3, ruleL, ↓retK, ncall, Todo_eq, packV, eqTB, litB, litV, fitL, fit, veqL, veq, sbin, sun, nilB, cellsV, oneB, okC, vals, fillV, partsE, Int.reduceLE, Int.reduceLT, Int.reduceToNat, Nat.reduceAdd, Nat.reduceEqDiff, Nat.reduceLT, Nat.reduceLeDiff, Nat.reduceMul, Nat.reduceSub, reduceCtorEq, tbAFc8, Try.results65, h1, h2]
  refine CallV_of _ (words_ok a.table b.table).v ?_
  simp only [↓ruleA0, ↓ruleA1, ↓ruleA2, ruleB0, ruleB1, ruleB2, ruleB3, ruleL, ↓retK, ncall, Todo_eq, packV, eqTB, litB, litV, fitL, fit, veqL, veq, sbin, sun, nilB, cellsV, oneB, okC, vals, fillV, partsE, Int.reduceLE, Int.reduceLT, Int.reduceToNat, Nat.reduceAdd, Nat.reduceEqDiff, Nat.reduceLT, Nat.reduceLeDiff, Nat.reduceMul, Nat.reduceSub, reduceCtorEq, tbAFc8, Try.results65, h1, h2]
  refine CallV_of _ (words_ok a.key b.key).v ?_
  simp only [↓ruleA0, ↓ruleA1, ↓ruleA2, ruleB0, ruleB1, ruleB2, ruleB3, ruleL, ↓retK, ncall, Todo_eq, packV, eqTB, litB, litV, fitL, fit, veqL, veq, sbin, sun, nilB, cellsV, oneB, okC, vals, fillV, partsE, Int.reduceLE, Int.reduceLT, Int.reduceToNat, Nat.reduceAdd, Nat.reduceEqDiff, Nat.reduceLT, Nat.reduceLeDiff, Nat.reduceMul, Nat.reduceSub, reduceCtorEq, tbAFc8, Try.results65, h1, h2]
  refine CallV_of _ (fields20_ok a.fields b.fields hl).v ?_
  have hL : ∀ L : List Int, L = [cmpRow a b, cmpI a.no b.no, cmpI a.tick b.tick, cmpS a.table b.table, cmpS a.key b.key, cmpL a.fields b.fields] → cmpFull a b = orL L := fun L h => by rw [h]; rfl
  have hn : ∀ L : List Int, L = [cmpRow a b, cmpI a.no b.no, cmpI a.tick b.tick, cmpS a.table b.table, cmpS a.key b.key, cmpL a.fields b.fields] → L.length = 6 := fun L h => by rw [h]; rfl
  have hv : ∀ L : List Int, L = [cmpRow a b, cmpI a.no b.no, cmpI a.tick b.tick, cmpS a.table b.table, cmpS a.key b.key, cmpL a.fields b.fields] → (L.map fun x => [vint x]) = [[vint (cmpRow a b)], [vint (cmpI a.no b.no)], [vint (cmpI a.tick b.tick)], [vint (cmpS a.table b.table)], [vint (cmpS a.key b.key)], [vint (cmpL a.fields b.fields)]] := fun L h => by rw [h]; rfl
  generalize hLe : [cmpRow a b, cmpI a.no b.no, cmpI a.tick b.tick, cmpS a.table b.table, cmpS a.key b.key, cmpL a.fields b.fields] = L at hL hn hv
  replace hL := hL L rfl
  replace hn := hn L rfl
  replace hv := hv L rfl
  simp only [↓ruleA0, ↓ruleA1, ↓ruleA2, ruleB0, ruleB1, ruleB2, ruleB3, ruleL, ↓retK, ncall, Todo_eq, packV, eqTB, litB, litV, fitL, fit, veqL, veq, sbin, sun, nilB, cellsV, oneB, okC, vals, fillV, partsE, Int.reduceLE, Int.reduceLT, Int.reduceToNat, Nat.reduceAdd, Nat.reduceEqDiff, Nat.reduceLT, Nat.reduceLeDiff, Nat.reduceMul, Nat.reduceSub, reduceCtorEq, tbAFc8, Try.results65, h1, h2]
  refine EX_for Ty.mixed (by kernel_rfl) 6 (fun i S => orL L = orL (L.drop i) ∧ S.σ 5 = vints L ∧ S.σ 6 = vint i) ⟨0, ?_⟩ (fun i S hi ⟨ho, g5, g6⟩ => ?_) (fun S ⟨ho, g5, g6⟩ => ?_)
  · simp only [↓ruleA0, ↓ruleA1, ↓ruleA2, ruleB0, ruleB1, ruleB2, ruleB3, ruleL, ↓retK, ncall, Todo_eq, packV, eqTB, litB, litV, fitL, fit, veqL, veq, sbin, sun, nilB, cellsV, oneB, okC, vals, fillV, partsE, Int.reduceLE, Int.reduceLT, Int.reduceToNat, Nat.reduceAdd, Nat.reduceEqDiff, Nat.reduceLT, Nat.reduceLeDiff, Nat.reduceMul, Nat.reduceSub, reduceCtorEq, tbAFc8, Try.results65]
    rw [vints, hv]
  · have hiL : i < L.length := by omega
    have hd : L.drop i = L[i] :: L.drop (i + 1) := List.drop_eq_getElem_cons hiL
    rw [hd, orL] at ho
    by_cases h0 : L[i] = 0
    · simp only [↓ruleA0, ↓ruleA1, ↓ruleA2, ruleB0, ruleB1, ruleB2, ruleB3, ruleL, ↓retK, ncall, Todo_eq, packV, eqTB, litB, litV, fitL, fit, veqL, veq, sbin, sun, nilB, cellsV, oneB, okC, vals, fillV, partsE, Int.reduceLE, Int.reduceLT, Int.reduceToNat, Nat.reduceAdd, Nat.reduceEqDiff, Nat.reduceLT, Nat.reduceLeDiff, Nat.reduceMul, Nat.reduceSub, reduceCtorEq, tbAFc8, Try.results65, g5, g6, Int.ofNat_lt, hi, hiL, List.length_map, getD_map, h0, hn, wrap_succ (N := 6) hi (by decide)]
      refine ⟨0, ?_⟩
      simpa [h0] using ho
    · simp only [↓ruleA0, ↓ruleA1, ↓ruleA2, ruleB0, ruleB1, ruleB2, ruleB3, ruleL, ↓retK, ncall, Todo_eq, packV, eqTB, litB, litV, fitL, fit, veqL, veq, sbin, sun, nilB, cellsV, oneB, okC, vals, fillV, partsE, Int.reduceLE, Int.reduceLT, Int.reduceToNat, Nat.reduceAdd, Nat.reduceEqDiff, Nat.reduceLT, Nat.reduceLeDiff, Nat.reduceMul, Nat.reduceSub, reduceCtorEq, tbAFc8, Try.results65, g5, g6, Int.ofNat_lt, hi, hiL, List.length_map, getD_map, h0, hn]
      exact ret_done (by rw [hL, ho, if_neg h0])
  · simp only [↓ruleA0, ↓ruleA1, ↓ruleA2, ruleB0, ruleB1, ruleB2, ruleB3, ruleL, ↓retK, ncall, Todo_eq, packV, eqTB, litB, litV, fitL, fit, veqL, veq, sbin, sun, nilB, cellsV, oneB, okC, vals, fillV, partsE, Int.reduceLE, Int.reduceLT, Int.reduceToNat, Nat.reduceAdd, Nat.reduceEqDiff, Nat.reduceLT, Nat.reduceLeDiff, Nat.reduceMul, Nat.reduceSub, reduceCtorEq, tbAFc8, Try.results65, g5, g6, Int.ofNat_lt, Nat.lt_irrefl, List.length_map, hn]
    exact ret_done (by rw [hL, ho, List.drop_of_length_le (by omega)]; rfl)
def ltD (a b : Dlt) : Bool := decide (a.tick < b.tick) || (decide (a.tick = b.tick) && decide (cmpFull a.row b.row < 0))
set_option linter.defProp false in
def tbAFc9 := (And.intro (And.intro (And.intro (And.intro (And.intro (And.intro Ty.sz3 Ty.by3) (And.intro Ty.ag3 Ty.zr3)) (And.intro (And.intro Ty.un3 Ty.sz4) (And.intro Ty.by4 Ty.ag4))) (And.intro (And.intro (And.intro Ty.zr4 Ty.un4) (And.intro Ty.sz9 Ty.by9)) (And.intro (And.intro Ty.ag9 Ty.zr9) (And.intro Ty.un9 (And.intro Ty.sz53 Ty.by53))))) (And.intro (And.intro (And.intro (And.intro Ty.ag53 Ty.zr53) (And.intro Ty.fl53_0 Ty.pl53_0)) (And.intro (And.intro Ty.fl53_1 Ty.pl53_1) (And.intro Ty.sz54 Ty.by54))) (And.intro (And.intro (And.intro Ty.ag54 Ty.zr54) (And.intro Ty.un54 Ty.sz56)) (And.intro (And.intro Ty.by56 Ty.ag56) (And.intro Ty.zr56 (And.intro Ty.fl56_0 Ty.pl56_0)))))) (And.intro (And.intro (And.intro (And.intro (And.intro Ty.fl56_1 Ty.pl56_1) (And.intro Ty.fl56_2 Ty.pl56_2)) (And.intro (And.intro Ty.fl56_3 Ty.pl56_3) (And.intro Ty.fl56_4 Ty.pl56_4))) (And.intro (And.intro (And.intro Ty.fl56_5 Ty.pl56_5) (And.intro Ty.fl56_6 Ty.pl56_6)) (And.intro (And.intro Ty.sz61 Ty.by61) (And.intro Ty.ag61 (And.intro Ty.zr61 Ty.fl61_0))))) (And.intro (And.intro (And.intro (And.intro Ty.pl61_0 Ty.fl61_1) (And.intro Ty.pl61_1 Ty.fl61_2)) (And.intro (And.intro Ty.pl61_2 Ty.sz109) (And.intro Ty.by109 (And.intro Ty.ag109 Ty.zr109)))) (And.intro (And.intro (And.intro Ty.fl109_0 Ty.pl109_0) (And.intro Ty.fl109_1 Ty.pl109_1)) (And.intro (And.intro Ty.fl109_2 Ty.pl109_2) (And.intro Ty.eq53 (And.intro Ty.eq109 Ty.cb65)))))))
theorem less_ok (a b : Dlt) (hl : okF a.row) : OkP Try.prog 89 [.agg (cDlt a), .agg (cDlt b)] (vbool (ltD a b)) := by
  refine Ok.of_ex Ty.mixed Try.func89 rfl (by simp [Try.ntmps89]) (by kernel_rfl) fun F w0 I0 => ?_
  simp only [↓ruleA0, ↓ruleA1, ↓ruleA2, ruleB0, ruleB1, ruleB2, ruleB3, ruleL, ↓retK, ncall, Todo_eq, packV, eqTB, litB, litV, fitL, fit, veqL, veq, sbin, sun, nilB, cellsV, oneB, okC, vals, fillV, partsE, Int.reduceLE, Int.reduceLT, Int.reduceToNat, Nat.reduceAdd, Nat.reduceEqDiff, Nat.reduceLT, Nat.reduceLeDiff, Nat.reduceMul, Nat.reduceSub, reduceCtorEq, tbAFc9, Try.results89]
  refine fun b1 h1 => ?_; replace h1 := newb h1; try simp only [Nb] at h1
  simp only [↓ruleA0, ↓ruleA1, ↓ruleA2, ruleB0, ruleB1, ruleB2, ruleB3, ruleL, ↓retK, ncall, Todo_eq, packV, eqTB, litB, litV, fitL, fit, veqL, veq, sbin, sun, nilB, cellsV, oneB, okC, vals, fillV, partsE, Int.reduceLE, Int.reduceLT, Int.reduceToNat, Nat.reduceAdd, Nat.reduceEqDiff, Nat.reduceLT, Nat.reduceLeDiff, Nat.reduceMul, Nat.reduceSub, reduceCtorEq, tbAFc9, Try.results89]
  refine fun b2 h2 => ?_; replace h2 := newb h2; try simp only [Nb] at h2
  by_cases e1 : a.tick < b.tick
  · simp only [↓ruleA0, ↓ruleA1, ↓ruleA2, ruleB0, ruleB1, ruleB2, ruleB3, ruleL, ↓retK, ncall, Todo_eq, packV, eqTB, litB, litV, fitL, fit, veqL, veq, sbin, sun, nilB, cellsV, oneB, okC, vals, fillV, partsE, Int.reduceLE, Int.reduceLT, Int.reduceToNat, Nat.reduceAdd, Nat.reduceEqDiff, Nat.reduceLT, Nat.reduceLeDiff, Nat.reduceMul, Nat.reduceSub, reduceCtorEq, tbAFc9, Try.results89, h1, h2, e1]
    exact ret_done (by simp [ltD, e1])
  · by_cases e2 : a.tick = b.tick
    · simp only [↓ruleA0, ↓ruleA1, ↓ruleA2, ruleB0, ruleB1, ruleB2, ruleB3, ruleL, ↓retK, ncall, Todo_eq, packV, eqTB, litB, litV, fitL, fit, veqL, veq, sbin, sun, nilB, cellsV, oneB, okC, vals, fillV, partsE, Int.reduceLE, Int.reduceLT, Int.reduceToNat, Nat.reduceAdd, Nat.reduceEqDiff, Nat.reduceLT, Nat.reduceLeDiff, Nat.reduceMul, Nat.reduceSub, reduceCtorEq, tbAFc9, Try.results89, h1, h2, e1, e2, Int.lt_irrefl]
      refine OkF_of _ (cmpFull20_ok a.row b.row hl) ?_
      simp only [↓ruleA0, ↓ruleA1, ↓ruleA2, ruleB0, ruleB1, ruleB2, ruleB3, ruleL, ↓retK, ncall, Todo_eq, packV, eqTB, litB, litV, fitL, fit, veqL, veq, sbin, sun, nilB, cellsV, oneB, okC, vals, fillV, partsE, Int.reduceLE, Int.reduceLT, Int.reduceToNat, Nat.reduceAdd, Nat.reduceEqDiff, Nat.reduceLT, Nat.reduceLeDiff, Nat.reduceMul, Nat.reduceSub, reduceCtorEq, tbAFc9, Try.results89]
      exact ret_done (by simp [ltD, e2])
    · simp only [↓ruleA0, ↓ruleA1, ↓ruleA2, ruleB0, ruleB1, ruleB2, ruleB3, ruleL, ↓retK, ncall, Todo_eq, packV, eqTB, litB, litV, fitL, fit, veqL, veq, sbin, sun, nilB, cellsV, oneB, okC, vals, fillV, partsE, Int.reduceLE, Int.reduceLT, Int.reduceToNat, Nat.reduceAdd, Nat.reduceEqDiff, Nat.reduceLT, Nat.reduceLeDiff, Nat.reduceMul, Nat.reduceSub, reduceCtorEq, tbAFc9, Try.results89, h1, h2, e1, e2]
      exact ret_done (by simp [ltD, e1, e2])
set_option linter.defProp false in
def tbAFc10 := (And.intro (And.intro (And.intro (And.intro Ty.sz3 (And.intro Ty.by3 Ty.ag3)) (And.intro (And.intro Ty.zr3 Ty.un3) (And.intro Ty.sz4 Ty.by4))) (And.intro (And.intro Ty.ag4 (And.intro Ty.zr4 Ty.un4)) (And.intro (And.intro Ty.sz9 Ty.by9) (And.intro Ty.ag9 Ty.zr9)))) (And.intro (And.intro (And.intro Ty.un9 (And.intro Ty.sz47 Ty.by47)) (And.intro (And.intro Ty.ag47 Ty.zr47) (And.intro Ty.un47 Ty.sz53))) (And.intro (And.intro (And.intro Ty.by53 Ty.ag53) (And.intro Ty.zr53 Ty.fl53_0)) (And.intro (And.intro Ty.pl53_0 Ty.fl53_1) (And.intro Ty.pl53_1 Ty.eq53)))))
theorem inIDs_ok (l : List FID) (x : FID) (hl : l.length ≤ 9223372036854775807) : OkP Try.prog 68 [vFIDs l, .agg (cFID x)] (vbool (decide (x ∈ l))) := by
  refine Ok.of_ex Ty.mixed Try.func68 rfl (by simp [Try.ntmps68]) (by kernel_rfl) fun F w0 I0 => ?_
  simp only [↓ruleA0, ↓ruleA1, ↓ruleA2, ruleB0, ruleB1, ruleB2, ruleB3, ruleL, ↓retK, ncall, Todo_eq, packV, eqTB, litB, litV, fitL, fit, veqL, veq, sbin, sun, nilB, cellsV, oneB, okC, vals, fillV, partsE, Int.reduceLE, Int.reduceLT, Int.reduceToNat, Nat.reduceAdd, Nat.reduceEqDiff, Nat.reduceLT, Nat.reduceLeDiff, Nat.reduceMul, Nat.reduceSub, reduceCtorEq, tbAFc10, Try.results68]
  refine fun b1 h1 => ?_; replace h1 := newb h1; try simp only [Nb] at h1
  simp only [↓ruleA0, ↓ruleA1, ↓ruleA2, ruleB0, ruleB1, ruleB2, ruleB3, ruleL, ↓retK, ncall, Todo_eq, packV, eqTB, litB, litV, fitL, fit, veqL, veq, sbin, sun, nilB, cellsV, oneB, okC, vals, fillV, partsE, Int.reduceLE, Int.reduceLT, Int.reduceToNat, Nat.reduceAdd, Nat.reduceEqDiff, Nat.reduceLT, Nat.reduceLeDiff, Nat.reduceMul, Nat.reduceSub, reduceCtorEq, tbAFc10, Try.results68]
  refine EX_for Ty.mixed (by kernel_rfl) l.length (fun i S => (∀ y ∈ l.take i, ¬ y = x) ∧ S.σ 0 = vFIDs l ∧ S.σ 3 = ptr b1 ∧ S.σ 5 = vint i ∧ S.boxes = [(b1, .c (cFID x))]) ⟨0, ?_⟩ (fun i S hi ⟨ho, g0, g3, g5, gb⟩ => ?_) (fun S ⟨ho, g0, g3, g5, gb⟩ => ?_)
  · simp only [↓ruleA0, ↓ruleA1, ↓ruleA2, ruleB0, ruleB1, ruleB2, ruleB3, ruleL, ↓retK, ncall, Todo_eq, packV, eqTB, litB, litV, fitL, fit, veqL, veq, sbin, sun, nilB, cellsV, oneB, okC, vals, fillV, partsE, Int.reduceLE, Int.reduceLT, Int.reduceToNat, Nat.reduceAdd, Nat.reduceEqDiff, Nat.reduceLT, Nat.reduceLeDiff, Nat.reduceMul, Nat.reduceSub, reduceCtorEq, tbAFc10, Try.results68]
    try simp
  · simp only [↓ruleA0, ↓ruleA1, ↓ruleA2, ruleB0, ruleB1, ruleB2, ruleB3, ruleL, ↓retK, ncall, Todo_eq, packV, eqTB, litB, litV, fitL, fit, veqL, veq, sbin, sun, nilB, cellsV, oneB, okC, vals, fillV, partsE, Int.reduceLE, Int.reduceLT, Int.reduceToNat, Nat.reduceAdd, Nat.reduceEqDiff, Nat.reduceLT, Nat.reduceLeDiff, Nat.reduceMul, Nat.reduceSub, reduceCtorEq, tbAFc10, Try.results68, g0, g3, g5, gb, Int.ofNat_lt, hi, List.length_map, getD_map]
    refine onCond_splitb (fun hc => ?_) (fun hc => ?_)
    · have : l[i] = x := by
        generalize l[i] = y at hc
        cases x; cases y; simp at hc; simp_all
      simp only [↓ruleA0, ↓ruleA1, ↓ruleA2, ruleB0, ruleB1, ruleB2, ruleB3, ruleL, ↓retK, ncall, Todo_eq, packV, eqTB, litB, litV, fitL, fit, veqL, veq, sbin, sun, nilB, cellsV, oneB, okC, vals, fillV, partsE, Int.reduceLE, Int.reduceLT, Int.reduceToNat, Nat.reduceAdd, Nat.reduceEqDiff, Nat.reduceLT, Nat.reduceLeDiff, Nat.reduceMul, Nat.reduceSub, reduceCtorEq, tbAFc10, Try.results68]
      exact ret_done (by simp [← this])
    · have : ¬ l[i] = x := fun e => by rw [e] at hc; simp at hc
      simp only [↓ruleA0, ↓ruleA1, ↓ruleA2, ruleB0, ruleB1, ruleB2, ruleB3, ruleL, ↓retK, ncall, Todo_eq, packV, eqTB, litB, litV, fitL, fit, veqL, veq, sbin, sun, nilB, cellsV, oneB, okC, vals, fillV, partsE, Int.reduceLE, Int.reduceLT, Int.reduceToNat, Nat.reduceAdd, Nat.reduceEqDiff, Nat.reduceLT, Nat.reduceLeDiff, Nat.reduceMul, Nat.reduceSub, reduceCtorEq, tbAFc10, Try.results68, g0, g3, g5, gb, wrap_succ hi hl]
      refine ⟨0, ?_, rfl⟩
      intro y hy
      rw [List.take_succ_eq_append_getElem hi] at hy
      rcases List.mem_append.1 hy with hy | hy
      · exact ho y hy
      · simp only [List.mem_singleton] at hy; subst hy; exact this
  · simp only [↓ruleA0, ↓ruleA1, ↓ruleA2, ruleB0, ruleB1, ruleB2, ruleB3, ruleL, ↓retK, ncall, Todo_eq, packV, eqTB, litB, litV, fitL, fit, veqL, veq, sbin, sun, nilB, cellsV, oneB, okC, vals, fillV, partsE, Int.reduceLE, Int.reduceLT, Int.reduceToNat, Nat.reduceAdd, Nat.reduceEqDiff, Nat.reduceLT, Nat.reduceLeDiff, Nat.reduceMul, Nat.reduceSub, reduceCtorEq, tbAFc10, Try.results68, g0, g3, g5, gb, Int.ofNat_lt, Nat.lt_irrefl, List.length_map]
    have : ¬ x ∈ l := fun hx => ho x (by rwa [List.take_of_length_le (Nat.le_refl _)]) rfl
    exact ret_done (by simp [this])
end Go.Proofs.Ytopfanlkbepemaa

/- Arrangements: contracts, part d: the reference's lists. -/
set_option linter.unusedSimpArgs false
set_option maxRecDepth 100000
namespace Go.Proofs.Ytopfanlkbepemaa
open Go.VL Go.Ar Go.Proofs.Ytopfanlkbepemaa

def big : Nat := 4194304
def allD (l : List Grp) : List Dlt := l.flatMap (·.ds)
theorem allD_take (l : List Grp) (i : Nat) (h : i < l.length) : allD (l.take (i + 1)) = allD (l.take i) ++ l[i].ds := by
  unfold allD; rw [List.take_succ_eq_append_getElem h, List.flatMap_append]; simp
theorem allD_len (l : List Grp) (i : Nat) (h : i < l.length) : (allD (l.take i)).length + l[i].ds.length ≤ (allD l).length := by
  have : allD l = allD (l.take (i + 1)) ++ allD (l.drop (i + 1)) := by simp only [allD]; rw [← List.flatMap_append, List.take_append_drop]
  rw [this, allD_take l i h]; simp
theorem ret_row {y : Value} {k : Nat} {e : TypeId} {es : List (List V)} {bs : List (Nat × B)} {rs : List VL.Row} : ∃ w bs' rs', Le (.list (some y) k es) w ∧ bs'.Sublist bs ∧ rs'.Sublist (⟨y, k, e⟩ :: rs) ∧ bs' = [] ∧ ∃ y', w = .list (some y') k es ∧ rs' = [⟨y', k, e⟩] :=
  ⟨_, [], [⟨y, k, e⟩], Le.refl _, List.nil_sublist _, List.Sublist.cons_cons _ (List.nil_sublist _), rfl, y, rfl, rfl⟩
/-- Hands back a list and its row. -/
def OkRow (P : Program) (f : FuncId) (args : List V) (k : Nat) (e : TypeId) (es : List (List V)) : Prop :=
  Ok P f args [] fun v bs rs => bs = [] ∧ ∃ y, v = .list (some y) k es ∧ rs = [⟨y, k, e⟩]
theorem OkRow.p {P f args k e es} (h : OkRow P f args k e es) : Ok P f args [] fun v bs rs => ∃ y, v = .list (some y) k es ∧ bs = [] ∧ rs = [⟨y, k, e⟩] :=
  Ok.mono h fun _ _ _ ⟨h1, y, h2, h3⟩ => ⟨y, h2, h1, h3⟩
/-- The row is given up. -/
theorem Ok.norows {P f args bs0 Q Q'} (h : Ok P f args bs0 Q) (hq : ∀ v bs rs, Q v bs rs → ∃ v' bs' rs', Le v v' ∧ bs'.Sublist bs ∧ rs'.Sublist rs ∧ Q' v' bs' rs') : Ok P f args bs0 Q' := by
  intro w I xs hr hH
  refine (h w I xs hr hH).mono fun e w' ⟨x, v, bs', rs', I', he, hv, hk, hh, hn, hQ⟩ => ?_
  obtain ⟨v2, bs2, rs2, hl, h1, h2, hQ'⟩ := hq _ _ _ hQ
  exact ⟨x, v2, bs2, rs2, I', he, hl w' I' x hv, hk, hh.sub h1 h2, fun b hb => hn b ((List.Sublist.append (h1.map _) (h2.filterMap _)).subset hb), hQ'⟩
theorem OkRow.list {P f args k e es} (h : OkRow P f args k e es) : OkP P f args (.list none k es) :=
  Ok.norows h fun v bs rs ⟨_, y, h2, _⟩ => ⟨.list none k es, [], [], h2 ▸ Le.list _ _ _, List.nil_sublist _, List.nil_sublist _, rfl, rfl, rfl⟩

set_option linter.defProp false in
def tbAFd0 := (And.intro (And.intro (And.intro (And.intro (And.intro (And.intro Ty.sz3 Ty.by3) (And.intro Ty.ag3 (And.intro Ty.zr3 Ty.un3))) (And.intro (And.intro Ty.sz4 (And.intro Ty.by4 Ty.ag4)) (And.intro Ty.zr4 (And.intro Ty.un4 Ty.sz9)))) (And.intro (And.intro (And.intro Ty.by9 (And.intro Ty.ag9 Ty.zr9)) (And.intro Ty.un9 (And.intro Ty.sz22 Ty.by22))) (And.intro (And.intro Ty.ag22 (And.intro Ty.zr22 Ty.un22)) (And.intro Ty.sz24 (And.intro Ty.by24 Ty.ag24))))) (And.intro (And.intro (And.intro (And.intro Ty.zr24 (And.intro Ty.fl24_0 Ty.pl24_0)) (And.intro Ty.fl24_1 (And.intro Ty.pl24_1 Ty.sz41))) (And.intro (And.intro Ty.by41 (And.intro Ty.ag41 Ty.zr41)) (And.intro Ty.un41 (And.intro Ty.sz53 Ty.by53)))) (And.intro (And.intro (And.intro Ty.ag53 (And.intro Ty.zr53 Ty.fl53_0)) (And.intro Ty.pl53_0 (And.intro Ty.fl53_1 Ty.pl53_1))) (And.intro (And.intro Ty.sz54 (And.intro Ty.by54 Ty.ag54)) (And.intro Ty.zr54 (And.intro Ty.un54 Ty.sz56)))))) (And.intro (And.intro (And.intro (And.intro (And.intro Ty.by56 Ty.ag56) (And.intro Ty.zr56 (And.intro Ty.fl56_0 Ty.pl56_0))) (And.intro (And.intro Ty.fl56_1 (And.intro Ty.pl56_1 Ty.fl56_2)) (And.intro Ty.pl56_2 (And.intro Ty.fl56_3 Ty.pl56_3)))) (And.intro (And.intro (And.intro Ty.fl56_4 (And.intro Ty.pl56_4 Ty.fl56_5)) (And.intro Ty.pl56_5 (And.intro Ty.fl56_6 Ty.pl56_6))) (And.intro (And.intro Ty.sz61 (And.intro Ty.by61 Ty.ag61)) (And.intro Ty.zr61 (And.intro Ty.fl61_0 Ty.pl61_0))))) (And.intro (And.intro (And.intro (And.intro Ty.fl61_1 (And.intro Ty.pl61_1 Ty.fl61_2)) (And.intro Ty.pl61_2 (And.intro Ty.sz65 Ty.by65))) (And.intro (And.intro Ty.ag65 (And.intro Ty.zr65 Ty.fl65_0)) (And.intro Ty.pl65_0 (And.intro Ty.fl65_1 Ty.pl65_1)))) (And.intro (And.intro (And.intro Ty.sz109 (And.intro Ty.by109 Ty.ag109)) (And.intro Ty.zr109 (And.intro Ty.fl109_0 Ty.pl109_0))) (And.intro (And.intro Ty.fl109_1 (And.intro Ty.pl109_1 Ty.fl109_2)) (And.intro Ty.pl109_2 (And.intro Ty.eq53 Ty.eq109)))))))
theorem all_ok (a : Arr) (hl : a.groups.length ≤ big) (hn : (allD a.groups).length ≤ big) : OkRow Try.prog 48 [vArr a] 10 61 ((allD a.groups).map cDlt) := by
  refine Ok.of_ex Ty.mixed Try.func48 rfl (by simp [Try.ntmps48]) (by kernel_rfl) fun F w0 I0 => ?_
  obtain ⟨s, l⟩ := a
  simp only at hl hn
  unfold big at hl hn
  simp only [↓ruleA0, ↓ruleA1, ↓ruleA2, ruleB0, ruleB1, ruleB2, ruleB3, ruleL, ↓retK, ncall, Todo_eq, packV, eqTB, litB, litV, fitL, fit, veqL, veq, sbin, sun, nilB, cellsV, oneB, okC, vals, fillV, partsE, Int.reduceLE, Int.reduceLT, Int.reduceToNat, Nat.reduceAdd, Nat.reduceEqDiff, Nat.reduceLT, Nat.reduceLeDiff, Nat.reduceMul, Nat.reduceSub, reduceCtorEq, tbAFd0, Try.results48]
  refine fun b1 h1 => ?_; replace h1 := newb h1; try simp only [Nb] at h1
  simp only [↓ruleA0, ↓ruleA1, ↓ruleA2, ruleB0, ruleB1, ruleB2, ruleB3, ruleL, ↓retK, ncall, Todo_eq, packV, eqTB, litB, litV, fitL, fit, veqL, veq, sbin, sun, nilB, cellsV, oneB, okC, vals, fillV, partsE, Int.reduceLE, Int.reduceLT, Int.reduceToNat, Nat.reduceAdd, Nat.reduceEqDiff, Nat.reduceLT, Nat.reduceLeDiff, Nat.reduceMul, Nat.reduceSub, reduceCtorEq, tbAFd0, Try.results48]
  refine AWP.nilRow 3 10 61 (by simp only [↓ruleA0, ↓ruleA1, ↓ruleA2, ruleB0, ruleB1, ruleB2, ruleB3, ruleL, ↓retK, ncall, Todo_eq, packV, eqTB, litB, litV, fitL, fit, veqL, veq, sbin, sun, nilB, cellsV, oneB, okC, vals, fillV, partsE, Int.reduceLE, Int.reduceLT, Int.reduceToNat, Nat.reduceAdd, Nat.reduceEqDiff, Nat.reduceLT, Nat.reduceLeDiff, Nat.reduceMul, Nat.reduceSub, reduceCtorEq, tbAFd0, Try.results48]) (by decide) ?_
  refine EX_for Ty.mixed (by kernel_rfl) l.length (fun i S => ∃ y, S.σ 3 = .list (some y) 10 ((allD (l.take i)).map cDlt) ∧ S.rows = [⟨y, 10, 61⟩] ∧ S.σ 1 = ptr b1 ∧ S.σ 4 = vint i ∧ S.boxes = [(b1, .c (cArr ⟨s, l⟩))]) ⟨0, nilv, ?_⟩ (fun i S hi ⟨y, g3, gr, g1, g4, gb⟩ => ?_) (fun S ⟨y, g3, gr, g1, g4, gb⟩ => ?_)
  · simp only [↓ruleA0, ↓ruleA1, ↓ruleA2, ruleB0, ruleB1, ruleB2, ruleB3, ruleL, ↓retK, ncall, Todo_eq, packV, eqTB, litB, litV, fitL, fit, veqL, veq, sbin, sun, nilB, cellsV, oneB, okC, vals, fillV, partsE, Int.reduceLE, Int.reduceLT, Int.reduceToNat, Nat.reduceAdd, Nat.reduceEqDiff, Nat.reduceLT, Nat.reduceLeDiff, Nat.reduceMul, Nat.reduceSub, reduceCtorEq, tbAFd0, Try.results48]
    simp [allD]
  · have hlen := allD_len l i hi
    simp only [↓ruleA0, ↓ruleA1, ↓ruleA2, ruleB0, ruleB1, ruleB2, ruleB3, ruleL, ↓retK, ncall, Todo_eq, packV, eqTB, litB, litV, fitL, fit, veqL, veq, sbin, sun, nilB, cellsV, oneB, okC, vals, fillV, partsE, Int.reduceLE, Int.reduceLT, Int.reduceToNat, Nat.reduceAdd, Nat.reduceEqDiff, Nat.reduceLT, Nat.reduceLeDiff, Nat.reduceMul, Nat.reduceSub, reduceCtorEq, tbAFd0, Try.results48, g3, gr, g1, g4, gb, Int.ofNat_lt, hi, List.length_map, getD_map, wrap_succ hi (Nat.le_trans hl (by decide))]
    refine ⟨by omega, fun y' => ⟨0, y', ?_, rfl, rfl⟩⟩
    rw [allD_take l i hi, List.map_append]
  · simp only [↓ruleA0, ↓ruleA1, ↓ruleA2, ruleB0, ruleB1, ruleB2, ruleB3, ruleL, ↓retK, ncall, Todo_eq, packV, eqTB, litB, litV, fitL, fit, veqL, veq, sbin, sun, nilB, cellsV, oneB, okC, vals, fillV, partsE, Int.reduceLE, Int.reduceLT, Int.reduceToNat, Nat.reduceAdd, Nat.reduceEqDiff, Nat.reduceLT, Nat.reduceLeDiff, Nat.reduceMul, Nat.reduceSub, reduceCtorEq, tbAFd0, Try.results48, g3, gr, g1, g4, gb, Int.ofNat_lt, Nat.lt_irrefl, List.length_map]
    rw [List.take_of_length_le (Nat.le_refl _)]
    exact ret_row

/-! ### The keys -/
def insK (l : List Str) (s : Str) : List Str := match l with
  | [] => [s]
  | k :: r => if less k s = true then k :: insK r s else if k = s then k :: r else s :: k :: r
def keysM (d : List Dlt) : List Str := d.foldl (fun l x => insK l x.row.key) []
theorem insK_at (s : Str) : ∀ (l : List Str) (i : Nat), i ≤ l.length → (∀ j, (h : j < l.length) → j < i → less l[j] s = true) → (∀ h : i < l.length, less l[i] s = false) →
    insK l s = if l[i]? = some s then l else l.take i ++ s :: l.drop i
  | [], i, hi, _, _ => by
    obtain rfl : i = 0 := by simpa using hi
    simp [insK]
  | k :: r, 0, _, _, h2 => by
    have h := h2 (by simp)
    simp only [List.getElem_cons_zero] at h
    simp only [insK, h, Bool.false_eq_true, if_false, List.getElem?_cons_zero, Option.some.injEq, List.take_zero, List.drop_zero, List.nil_append]
  | k :: r, i + 1, hi, h1, h2 => by
    have h := h1 0 (by simp) (by omega)
    simp only [List.getElem_cons_zero] at h
    have ih := insK_at s r i (by simpa using hi) (fun j hj hji => h1 (j + 1) (by simpa using hj) (by omega)) (fun hlt => h2 (by simpa using hlt))
    simp only [insK, h, if_true, List.getElem?_cons_succ, List.take_succ_cons, List.drop_succ_cons, List.cons_append]
    rw [ih]
    split <;> rfl
theorem insK_len (s : Str) : ∀ l : List Str, (insK l s).length ≤ l.length + 1
  | [] => by simp [insK]
  | k :: r => by
    have := insK_len s r
    unfold insK
    split
    · simp; omega
    · split <;> simp
theorem keysM_take (d : List Dlt) (i : Nat) (h : i < d.length) : keysM (d.take (i + 1)) = insK (keysM (d.take i)) d[i].row.key := by
  unfold keysM; rw [List.take_succ_eq_append_getElem h, List.foldl_append]; rfl
theorem keysM_len (d : List Dlt) : (keysM d).length ≤ d.length := by
  have : ∀ (d : List Dlt) (l : List Str), (d.foldl (fun l x => insK l x.row.key) l).length ≤ l.length + d.length := by
    intro d
    induction d with
    | nil => intro l; simp
    | cons x d ih => intro l; simp only [List.foldl_cons, List.length_cons]; have := ih (insK l x.row.key); have := insK_len x.row.key l; omega
  simpa [keysM] using this d []

set_option linter.defProp false in
def tbAFd1 := (And.intro (And.intro (And.intro (And.intro (And.intro (And.intro Ty.sz3 Ty.by3) (And.intro Ty.ag3 Ty.zr3)) (And.intro (And.intro Ty.un3 Ty.sz4) (And.intro Ty.by4 (And.intro Ty.ag4 Ty.zr4)))) (And.intro (And.intro (And.intro Ty.un4 Ty.sz9) (And.intro Ty.by9 (And.intro Ty.ag9 Ty.zr9))) (And.intro (And.intro Ty.un9 Ty.sz35) (And.intro Ty.by35 (And.intro Ty.ag35 Ty.zr35))))) (And.intro (And.intro (And.intro (And.intro Ty.un35 Ty.sz41) (And.intro Ty.by41 (And.intro Ty.ag41 Ty.zr41))) (And.intro (And.intro Ty.un41 Ty.sz53) (And.intro Ty.by53 (And.intro Ty.ag53 Ty.zr53)))) (And.intro (And.intro (And.intro Ty.fl53_0 Ty.pl53_0) (And.intro Ty.fl53_1 (And.intro Ty.pl53_1 Ty.sz54))) (And.intro (And.intro Ty.by54 Ty.ag54) (And.intro Ty.zr54 (And.intro Ty.un54 Ty.sz56)))))) (And.intro (And.intro (And.intro (And.intro (And.intro Ty.by56 Ty.ag56) (And.intro Ty.zr56 Ty.fl56_0)) (And.intro (And.intro Ty.pl56_0 Ty.fl56_1) (And.intro Ty.pl56_1 (And.intro Ty.fl56_2 Ty.pl56_2)))) (And.intro (And.intro (And.intro Ty.fl56_3 Ty.pl56_3) (And.intro Ty.fl56_4 (And.intro Ty.pl56_4 Ty.fl56_5))) (And.intro (And.intro Ty.pl56_5 Ty.fl56_6) (And.intro Ty.pl56_6 (And.intro Ty.sz61 Ty.by61))))) (And.intro (And.intro (And.intro (And.intro Ty.ag61 Ty.zr61) (And.intro Ty.fl61_0 (And.intro Ty.pl61_0 Ty.fl61_1))) (And.intro (And.intro Ty.pl61_1 Ty.fl61_2) (And.intro Ty.pl61_2 (And.intro Ty.sz109 Ty.by109)))) (And.intro (And.intro (And.intro Ty.ag109 Ty.zr109) (And.intro Ty.fl109_0 (And.intro Ty.pl109_0 Ty.fl109_1))) (And.intro (And.intro Ty.pl109_1 Ty.fl109_2) (And.intro Ty.pl109_2 (And.intro Ty.eq53 Ty.eq109)))))))
theorem keys_ok (d : List Dlt) (hd : d.length ≤ big) : OkRow Try.prog 67 [vDlts d] 1 9 ((keysM d).map fun s => [vstr s]) := by
  refine Ok.of_ex Ty.mixed Try.func67 rfl (by simp [Try.ntmps67]) (by kernel_rfl) fun F w0 I0 => ?_
  unfold big at hd
  simp only [↓ruleA0, ↓ruleA1, ↓ruleA2, ruleB0, ruleB1, ruleB2, ruleB3, ruleL, ↓retK, ncall, Todo_eq, packV, eqTB, litB, litV, fitL, fit, veqL, veq, sbin, sun, nilB, cellsV, oneB, okC, vals, fillV, partsE, Int.reduceLE, Int.reduceLT, Int.reduceToNat, Nat.reduceAdd, Nat.reduceEqDiff, Nat.reduceLT, Nat.reduceLeDiff, Nat.reduceMul, Nat.reduceSub, reduceCtorEq, tbAFd1, Try.results67]
  refine AWP.nilRow 3 1 9 (by simp only [↓ruleA0, ↓ruleA1, ↓ruleA2, ruleB0, ruleB1, ruleB2, ruleB3, ruleL, ↓retK, ncall, Todo_eq, packV, eqTB, litB, litV, fitL, fit, veqL, veq, sbin, sun, nilB, cellsV, oneB, okC, vals, fillV, partsE, Int.reduceLE, Int.reduceLT, Int.reduceToNat, Nat.reduceAdd, Nat.reduceEqDiff, Nat.reduceLT, Nat.reduceLeDiff, Nat.reduceMul, Nat.reduceSub, reduceCtorEq, tbAFd1, Try.results67]) (by decide) ?_
  refine EX_forR Ty.mixed (by kernel_rfl) d.length (fun i S => ∃ y, S.σ 3 = .list (some y) 1 ((keysM (d.take i)).map fun s => [vstr s]) ∧ S.rows = [⟨y, 1, 9⟩] ∧ S.σ 0 = vDlts d ∧ S.σ 4 = vint i ∧ S.boxes = []) ⟨0, 1, nilv, ?_⟩ (fun i S hi ⟨y, g3, gr, g0, g4, gb⟩ => ?_) (fun S ⟨y, g3, gr, g0, g4, gb⟩ => ?_)
  · simp only [↓ruleA0, ↓ruleA1, ↓ruleA2, ruleB0, ruleB1, ruleB2, ruleB3, ruleL, ↓retK, ncall, Todo_eq, packV, eqTB, litB, litV, fitL, fit, veqL, veq, sbin, sun, nilB, cellsV, oneB, okC, vals, fillV, partsE, Int.reduceLE, Int.reduceLT, Int.reduceToNat, Nat.reduceAdd, Nat.reduceEqDiff, Nat.reduceLT, Nat.reduceLeDiff, Nat.reduceMul, Nat.reduceSub, reduceCtorEq, tbAFd1, Try.results67]
    simp [keysM]
  · have hk := keysM_take d i hi
    have hlen := keysM_len (d.take i)
    rw [List.length_take, Nat.min_eq_left (by omega)] at hlen
    generalize hl : keysM (d.take i) = l at g3 hk hlen
    generalize hs : d[i].row.key = s at hk
    simp only [↓ruleA0, ↓ruleA1, ↓ruleA2, ruleB0, ruleB1, ruleB2, ruleB3, ruleL, ↓retK, ncall, Todo_eq, packV, eqTB, litB, litV, fitL, fit, veqL, veq, sbin, sun, nilB, cellsV, oneB, okC, vals, fillV, partsE, Int.reduceLE, Int.reduceLT, Int.reduceToNat, Nat.reduceAdd, Nat.reduceEqDiff, Nat.reduceLT, Nat.reduceLeDiff, Nat.reduceMul, Nat.reduceSub, reduceCtorEq, tbAFd1, Try.results67, g3, gr, g0, g4, gb, Int.ofNat_lt, hi, List.length_map, getD_map, hs]
    refine EX_while Ty.mixed (by kernel_rfl) (fun j => l.length - j) (fun j S => (j ≤ l.length ∧ ∀ k, (h : k < l.length) → k < j → less l[k] s = true) ∧ S.σ 6 = vint j ∧ S.σ 3 = .list (some y) 1 (l.map fun s => [vstr s]) ∧ S.σ 5 = vstr s ∧ S.rows = [⟨y, 1, 9⟩] ∧ S.σ 0 = vDlts d ∧ S.σ 4 = vint i ∧ S.boxes = []) 0 ⟨0, ?_⟩ fun j S ⟨⟨hj, ho⟩, g6, g3, g5, gr, g0, g4, gb⟩ => ?_
    · simp only [↓ruleA0, ↓ruleA1, ↓ruleA2, ruleB0, ruleB1, ruleB2, ruleB3, ruleL, ↓retK, ncall, Todo_eq, packV, eqTB, litB, litV, fitL, fit, veqL, veq, sbin, sun, nilB, cellsV, oneB, okC, vals, fillV, partsE, Int.reduceLE, Int.reduceLT, Int.reduceToNat, Nat.reduceAdd, Nat.reduceEqDiff, Nat.reduceLT, Nat.reduceLeDiff, Nat.reduceMul, Nat.reduceSub, reduceCtorEq, tbAFd1, Try.results67, g3, gr, g0, g4, gb]
      try simp
    · have fin : ∀ y1, (∀ h : j < l.length, less l[j] s = false) → (¬ l[j]? = some s) → V.list (some y1) 1 ((List.take j (l.map fun s => [vstr s])) ++ [[vstr s]] ++ List.drop j (l.map fun s => [vstr s])) = .list (some y1) 1 ((keysM (d.take (i + 1))).map fun s => [vstr s]) := fun y1 h1 h2 => by
        rw [hk, insK_at s l j hj ho h1, if_neg h2]
        simp [List.map_take, List.map_drop]
      by_cases hjl : j < l.length
      · cases hc : Op.bytesLess l[j].data.toList s.data.toList
        · by_cases he : l[j] = s
          · have hc' : Op.bytesLess s.data.toList s.data.toList = false := he ▸ hc
            simp only [↓ruleA0, ↓ruleA1, ↓ruleA2, ruleB0, ruleB1, ruleB2, ruleB3, ruleL, ↓retK, ncall, Todo_eq, packV, eqTB, litB, litV, fitL, fit, veqL, veq, sbin, sun, nilB, cellsV, oneB, okC, vals, fillV, partsE, Int.reduceLE, Int.reduceLT, Int.reduceToNat, Nat.reduceAdd, Nat.reduceEqDiff, Nat.reduceLT, Nat.reduceLeDiff, Nat.reduceMul, Nat.reduceSub, reduceCtorEq, tbAFd1, Try.results67, g6, g3, g5, gr, g0, g4, gb, Int.ofNat_lt, hjl, List.length_map, getD_map, hc', he, wrap_succ hi (Nat.le_trans hd (by decide))]
            refine ⟨0, 1, y, ?_, rfl⟩
            rw [hk, insK_at s l j hj ho (fun _ => hc), if_pos (by rw [List.getElem?_eq_getElem hjl, he])]
          · simp only [↓ruleA0, ↓ruleA1, ↓ruleA2, ruleB0, ruleB1, ruleB2, ruleB3, ruleL, ↓retK, ncall, Todo_eq, packV, eqTB, litB, litV, fitL, fit, veqL, veq, sbin, sun, nilB, cellsV, oneB, okC, vals, fillV, partsE, Int.reduceLE, Int.reduceLT, Int.reduceToNat, Nat.reduceAdd, Nat.reduceEqDiff, Nat.reduceLT, Nat.reduceLeDiff, Nat.reduceMul, Nat.reduceSub, reduceCtorEq, tbAFd1, Try.results67, g6, g3, g5, gr, g0, g4, gb, Int.ofNat_lt, hj, hjl, List.length_map, getD_map, hc, he]
            refine Or2.l ?_
            simp only [↓ruleA0, ↓ruleA1, ↓ruleA2, ruleB0, ruleB1, ruleB2, ruleB3, ruleL, ↓retK, ncall, Todo_eq, packV, eqTB, litB, litV, fitL, fit, veqL, veq, sbin, sun, nilB, cellsV, oneB, okC, vals, fillV, partsE, Int.reduceLE, Int.reduceLT, Int.reduceToNat, Nat.reduceAdd, Nat.reduceEqDiff, Nat.reduceLT, Nat.reduceLeDiff, Nat.reduceMul, Nat.reduceSub, reduceCtorEq, tbAFd1, Try.results67, g6, g3, g5, gr, g0, g4, gb]
            refine ⟨(by first | omega | (simp; omega)), fun y1 y2 => takeRF_2 ?_⟩
            simp only [↓ruleA0, ↓ruleA1, ↓ruleA2, ruleB0, ruleB1, ruleB2, ruleB3, ruleL, ↓retK, ncall, Todo_eq, packV, eqTB, litB, litV, fitL, fit, veqL, veq, sbin, sun, nilB, cellsV, oneB, okC, vals, fillV, partsE, Int.reduceLE, Int.reduceLT, Int.reduceToNat, Nat.reduceAdd, Nat.reduceEqDiff, Nat.reduceLT, Nat.reduceLeDiff, Nat.reduceMul, Nat.reduceSub, reduceCtorEq, tbAFd1, Try.results67, g6, g3, g5, gr, g0, g4, gb, hj, List.length_map]
            refine ⟨(by first | omega | (simp; omega)), fun y3 => takeRF_1 ?_⟩
            simp only [↓ruleA0, ↓ruleA1, ↓ruleA2, ruleB0, ruleB1, ruleB2, ruleB3, ruleL, ↓retK, ncall, Todo_eq, packV, eqTB, litB, litV, fitL, fit, veqL, veq, sbin, sun, nilB, cellsV, oneB, okC, vals, fillV, partsE, Int.reduceLE, Int.reduceLT, Int.reduceToNat, Nat.reduceAdd, Nat.reduceEqDiff, Nat.reduceLT, Nat.reduceLeDiff, Nat.reduceMul, Nat.reduceSub, reduceCtorEq, tbAFd1, Try.results67, g6, g3, g5, gr, g0, g4, gb, hj, List.length_map, wrap_succ hi (Nat.le_trans hd (by decide))]
            refine ⟨(by first | omega | (simp; omega)), fun y4 => ?_⟩
            exact ⟨0, 1, y4, fin y4 (fun _ => hc) (by rw [List.getElem?_eq_getElem hjl]; simpa using he), rfl⟩
        · simp only [↓ruleA0, ↓ruleA1, ↓ruleA2, ruleB0, ruleB1, ruleB2, ruleB3, ruleL, ↓retK, ncall, Todo_eq, packV, eqTB, litB, litV, fitL, fit, veqL, veq, sbin, sun, nilB, cellsV, oneB, okC, vals, fillV, partsE, Int.reduceLE, Int.reduceLT, Int.reduceToNat, Nat.reduceAdd, Nat.reduceEqDiff, Nat.reduceLT, Nat.reduceLeDiff, Nat.reduceMul, Nat.reduceSub, reduceCtorEq, tbAFd1, Try.results67, g6, g3, g5, gr, g0, g4, gb, Int.ofNat_lt, hjl, List.length_map, getD_map, hc, wrap_succ hjl (show l.length ≤ 9223372036854775807 by omega)]
          refine ⟨j + 1, by omega, 0, ⟨by omega, fun k h hkj => ?_⟩, rfl⟩
          by_cases e : k = j
          · subst e; exact hc
          · exact ho k h (by omega)
      · simp only [↓ruleA0, ↓ruleA1, ↓ruleA2, ruleB0, ruleB1, ruleB2, ruleB3, ruleL, ↓retK, ncall, Todo_eq, packV, eqTB, litB, litV, fitL, fit, veqL, veq, sbin, sun, nilB, cellsV, oneB, okC, vals, fillV, partsE, Int.reduceLE, Int.reduceLT, Int.reduceToNat, Nat.reduceAdd, Nat.reduceEqDiff, Nat.reduceLT, Nat.reduceLeDiff, Nat.reduceMul, Nat.reduceSub, reduceCtorEq, tbAFd1, Try.results67, g6, g3, g5, gr, g0, g4, gb, Int.ofNat_lt, hj, hjl, List.length_map]
        refine Or2.l ?_
        simp only [↓ruleA0, ↓ruleA1, ↓ruleA2, ruleB0, ruleB1, ruleB2, ruleB3, ruleL, ↓retK, ncall, Todo_eq, packV, eqTB, litB, litV, fitL, fit, veqL, veq, sbin, sun, nilB, cellsV, oneB, okC, vals, fillV, partsE, Int.reduceLE, Int.reduceLT, Int.reduceToNat, Nat.reduceAdd, Nat.reduceEqDiff, Nat.reduceLT, Nat.reduceLeDiff, Nat.reduceMul, Nat.reduceSub, reduceCtorEq, tbAFd1, Try.results67, g6, g3, g5, gr, g0, g4, gb]
        refine ⟨(by first | omega | (simp; omega)), fun y1 y2 => takeRF_2 ?_⟩
        simp only [↓ruleA0, ↓ruleA1, ↓ruleA2, ruleB0, ruleB1, ruleB2, ruleB3, ruleL, ↓retK, ncall, Todo_eq, packV, eqTB, litB, litV, fitL, fit, veqL, veq, sbin, sun, nilB, cellsV, oneB, okC, vals, fillV, partsE, Int.reduceLE, Int.reduceLT, Int.reduceToNat, Nat.reduceAdd, Nat.reduceEqDiff, Nat.reduceLT, Nat.reduceLeDiff, Nat.reduceMul, Nat.reduceSub, reduceCtorEq, tbAFd1, Try.results67, g6, g3, g5, gr, g0, g4, gb, hj, List.length_map]
        refine ⟨(by first | omega | (simp; omega)), fun y3 => takeRF_1 ?_⟩
        simp only [↓ruleA0, ↓ruleA1, ↓ruleA2, ruleB0, ruleB1, ruleB2, ruleB3, ruleL, ↓retK, ncall, Todo_eq, packV, eqTB, litB, litV, fitL, fit, veqL, veq, sbin, sun, nilB, cellsV, oneB, okC, vals, fillV, partsE, Int.reduceLE, Int.reduceLT, Int.reduceToNat, Nat.reduceAdd, Nat.reduceEqDiff, Nat.reduceLT, Nat.reduceLeDiff, Nat.reduceMul, Nat.reduceSub, reduceCtorEq, tbAFd1, Try.results67, g6, g3, g5, gr, g0, g4, gb, hj, List.length_map, wrap_succ hi (Nat.le_trans hd (by decide))]
        refine ⟨(by first | omega | (simp; omega)), fun y4 => ?_⟩
        exact ⟨0, 1, y4, fin y4 (fun h => absurd h hjl) (by rw [List.getElem?_eq_none (by omega)]; simp), rfl⟩
  · simp only [↓ruleA0, ↓ruleA1, ↓ruleA2, ruleB0, ruleB1, ruleB2, ruleB3, ruleL, ↓retK, ncall, Todo_eq, packV, eqTB, litB, litV, fitL, fit, veqL, veq, sbin, sun, nilB, cellsV, oneB, okC, vals, fillV, partsE, Int.reduceLE, Int.reduceLT, Int.reduceToNat, Nat.reduceAdd, Nat.reduceEqDiff, Nat.reduceLT, Nat.reduceLeDiff, Nat.reduceMul, Nat.reduceSub, reduceCtorEq, tbAFd1, Try.results67, g3, gr, g0, g4, gb, Int.ofNat_lt, Nat.lt_irrefl, List.length_map]
    rw [List.take_of_length_le (Nat.le_refl _)]
    exact ret_row

/-! ### Consolidation -/
def wrap (n : Int) : Int := IntKind.i64.wrap n
def putM (l : List Dlt) (x : Dlt) : List Dlt := match l with
  | [] => if x.n = 0 then [] else [x]
  | y :: l => if ltD y x = true then y :: putM l x else if ltD x y = true then (if x.n = 0 then y :: l else x :: y :: l) else if wrap (x.n + y.n) = 0 then l else { x with n := wrap (x.n + y.n) } :: l
def consM (d : List Dlt) : List Dlt := d.foldl putM []
/-- What put comes to once the place is known. -/
def putAt (l : List Dlt) (x : Dlt) (i : Nat) : List Dlt :=
  match l[i]? with
  | none => if x.n = 0 then l else l ++ [x]
  | some y => if ltD x y = true then (if x.n = 0 then l else l.take i ++ x :: l.drop i) else if wrap (x.n + y.n) = 0 then l.take i ++ l.drop (i + 1) else l.take i ++ { x with n := wrap (x.n + y.n) } :: l.drop (i + 1)
theorem putM_at (x : Dlt) : ∀ (l : List Dlt) (i : Nat), i ≤ l.length → (∀ j, (h : j < l.length) → j < i → ltD l[j] x = true) → (∀ h : i < l.length, ltD l[i] x = false) → putM l x = putAt l x i
  | [], i, hi, _, _ => by
    obtain rfl : i = 0 := by simpa using hi
    simp [putM, putAt]
  | y :: l, 0, _, _, h2 => by
    have h : ltD y x = false := h2 (by simp)
    simp [putM, putAt, h]
  | y :: l, i + 1, hi, h1, h2 => by
    have h : ltD y x = true := h1 0 (by simp) (by omega)
    have ih := putM_at x l i (by simpa using hi) (fun j hj hji => h1 (j + 1) (by simpa using hj) (by omega)) (fun hlt => h2 (by simpa using hlt))
    simp only [putM, h, if_true, putAt, List.getElem?_cons_succ, List.take_succ_cons, List.drop_succ_cons, List.cons_append]
    rw [ih]
    unfold putAt
    split
    · split <;> rfl
    · split
      · split <;> rfl
      · split <;> rfl
theorem putM_len (x : Dlt) : ∀ l : List Dlt, (putM l x).length ≤ l.length + 1
  | [] => by unfold putM; split <;> simp
  | y :: l => by
    have := putM_len x l
    unfold putM
    repeat' split
    all_goals simp
    all_goals omega
theorem consM_take (d : List Dlt) (i : Nat) (h : i < d.length) : consM (d.take (i + 1)) = putM (consM (d.take i)) d[i] := by
  unfold consM; rw [List.take_succ_eq_append_getElem h, List.foldl_append]; rfl
theorem foldPut_len (d : List Dlt) : ∀ l : List Dlt, (d.foldl putM l).length ≤ l.length + d.length := by
  induction d with
  | nil => intro l; simp
  | cons x d ih => intro l; simp only [List.foldl_cons, List.length_cons]; have := ih (putM l x); have := putM_len x l; omega
theorem consM_len (d : List Dlt) : (consM d).length ≤ d.length := by simpa [consM] using foldPut_len d []
theorem putM_mem {p : Rw → Prop} (x : Dlt) (hx : p x.row) : ∀ l : List Dlt, (∀ y ∈ l, p y.row) → ∀ y ∈ putM l x, p y.row
  | [], _, y, hy => by
    unfold putM at hy
    split at hy
    · cases hy
    · simp only [List.mem_singleton] at hy; subst hy; exact hx
  | z :: l, h, y, hy => by
    have ih := putM_mem x hx l (fun y hy => h y (List.mem_cons_of_mem _ hy))
    unfold putM at hy
    repeat' split at hy
    all_goals try simp only [List.mem_cons] at hy
    · rcases hy with rfl | hy
      · exact h _ List.mem_cons_self
      · exact ih y hy
    · rcases hy with rfl | hy
      · exact h _ List.mem_cons_self
      · exact h y (List.mem_cons_of_mem _ hy)
    · rcases hy with rfl | rfl | hy
      · exact hx
      · exact h _ List.mem_cons_self
      · exact h y (List.mem_cons_of_mem _ hy)
    · exact h y (List.mem_cons_of_mem _ hy)
    · rcases hy with rfl | hy
      · exact hx
      · exact h y (List.mem_cons_of_mem _ hy)
theorem consM_mem {p : Rw → Prop} (d : List Dlt) (h : ∀ y ∈ d, p y.row) : ∀ y ∈ consM d, p y.row := by
  have : ∀ (d : List Dlt), (∀ y ∈ d, p y.row) → ∀ l : List Dlt, (∀ y ∈ l, p y.row) → ∀ y ∈ d.foldl putM l, p y.row := by
    intro d
    induction d with
    | nil => intro _ l hl; exact hl
    | cons x d ih => intro hd l hl; exact ih (fun y hy => hd y (List.mem_cons_of_mem _ hy)) _ (putM_mem x (hd x List.mem_cons_self) l hl)
  exact this d h [] (by simp)

set_option linter.defProp false in
def tbAFd2 := (And.intro (And.intro (And.intro (And.intro (And.intro (And.intro Ty.sz3 Ty.by3) (And.intro Ty.ag3 Ty.zr3)) (And.intro (And.intro Ty.un3 Ty.sz4) (And.intro Ty.by4 (And.intro Ty.ag4 Ty.zr4)))) (And.intro (And.intro (And.intro Ty.un4 Ty.sz9) (And.intro Ty.by9 Ty.ag9)) (And.intro (And.intro Ty.zr9 Ty.un9) (And.intro Ty.sz41 (And.intro Ty.by41 Ty.ag41))))) (And.intro (And.intro (And.intro (And.intro Ty.zr41 Ty.un41) (And.intro Ty.sz53 Ty.by53)) (And.intro (And.intro Ty.ag53 Ty.zr53) (And.intro Ty.fl53_0 (And.intro Ty.pl53_0 Ty.fl53_1)))) (And.intro (And.intro (And.intro Ty.pl53_1 Ty.sz54) (And.intro Ty.by54 (And.intro Ty.ag54 Ty.zr54))) (And.intro (And.intro Ty.un54 Ty.sz56) (And.intro Ty.by56 (And.intro Ty.ag56 Ty.zr56)))))) (And.intro (And.intro (And.intro (And.intro (And.intro Ty.fl56_0 Ty.pl56_0) (And.intro Ty.fl56_1 Ty.pl56_1)) (And.intro (And.intro Ty.fl56_2 Ty.pl56_2) (And.intro Ty.fl56_3 (And.intro Ty.pl56_3 Ty.fl56_4)))) (And.intro (And.intro (And.intro Ty.pl56_4 Ty.fl56_5) (And.intro Ty.pl56_5 Ty.fl56_6)) (And.intro (And.intro Ty.pl56_6 Ty.sz61) (And.intro Ty.by61 (And.intro Ty.ag61 Ty.zr61))))) (And.intro (And.intro (And.intro (And.intro Ty.fl61_0 Ty.pl61_0) (And.intro Ty.fl61_1 Ty.pl61_1)) (And.intro (And.intro Ty.fl61_2 Ty.pl61_2) (And.intro Ty.sz109 (And.intro Ty.by109 Ty.ag109)))) (And.intro (And.intro (And.intro Ty.zr109 Ty.fl109_0) (And.intro Ty.pl109_0 (And.intro Ty.fl109_1 Ty.pl109_1))) (And.intro (And.intro Ty.fl109_2 Ty.pl109_2) (And.intro Ty.eq53 (And.intro Ty.eq109 Ty.cb89)))))))
theorem put_ok (l : List Dlt) (x : Dlt) (hl : l.length ≤ big) (hf : ∀ y ∈ l, okF y.row) (hx : okF x.row) : OkP Try.prog 76 [vDlts l, .agg (cDlt x)] (vDlts (putM l x)) := by
  refine Ok.of_ex Ty.mixed Try.func76 rfl (by simp [Try.ntmps76]) (by kernel_rfl) fun F w0 I0 => ?_
  unfold big at hl
  simp only [↓ruleA0, ↓ruleA1, ↓ruleA2, ruleB0, ruleB1, ruleB2, ruleB3, ruleL, ↓retK, ncall, Todo_eq, packV, eqTB, litB, litV, fitL, fit, veqL, veq, sbin, sun, nilB, cellsV, oneB, okC, vals, fillV, partsE, Int.reduceLE, Int.reduceLT, Int.reduceToNat, Nat.reduceAdd, Nat.reduceEqDiff, Nat.reduceLT, Nat.reduceLeDiff, Nat.reduceMul, Nat.reduceSub, reduceCtorEq, tbAFd2, Try.results76]
  refine fun b1 h1 => ?_; replace h1 := newb h1; try simp only [Nb] at h1
  simp only [↓ruleA0, ↓ruleA1, ↓ruleA2, ruleB0, ruleB1, ruleB2, ruleB3, ruleL, ↓retK, ncall, Todo_eq, packV, eqTB, litB, litV, fitL, fit, veqL, veq, sbin, sun, nilB, cellsV, oneB, okC, vals, fillV, partsE, Int.reduceLE, Int.reduceLT, Int.reduceToNat, Nat.reduceAdd, Nat.reduceEqDiff, Nat.reduceLT, Nat.reduceLeDiff, Nat.reduceMul, Nat.reduceSub, reduceCtorEq, tbAFd2, Try.results76]
  refine EX_while Ty.mixed (by kernel_rfl) (fun j => l.length - j) (fun j S => (j ≤ l.length ∧ ∀ k, (h : k < l.length) → k < j → ltD l[k] x = true) ∧ S.σ 5 = vint j ∧ S.σ 0 = vDlts l ∧ S.σ 3 = ptr b1 ∧ S.boxes = [(b1, .c (cDlt x))] ∧ S.rows = []) 0 ⟨0, ?_⟩ fun j S ⟨⟨hj, ho⟩, g5, g0, g3, gb, gr⟩ => ?_
  · simp only [↓ruleA0, ↓ruleA1, ↓ruleA2, ruleB0, ruleB1, ruleB2, ruleB3, ruleL, ↓retK, ncall, Todo_eq, packV, eqTB, litB, litV, fitL, fit, veqL, veq, sbin, sun, nilB, cellsV, oneB, okC, vals, fillV, partsE, Int.reduceLE, Int.reduceLT, Int.reduceToNat, Nat.reduceAdd, Nat.reduceEqDiff, Nat.reduceLT, Nat.reduceLeDiff, Nat.reduceMul, Nat.reduceSub, reduceCtorEq, tbAFd2, Try.results76]
    try simp
  · have hno : (¬ j < l.length ∨ ∃ h : j < l.length, ltD l[j] x = false) ∨ ∃ h : j < l.length, ltD l[j] x = true := by
      by_cases hjl : j < l.length
      · cases hc : ltD l[j] x
        · exact .inl (.inr ⟨hjl, hc⟩)
        · exact .inr ⟨hjl, hc⟩
      · exact .inl (.inl hjl)
    rcases hno with hno | ⟨hjl, hc⟩
    · have hat := putM_at x l j hj ho (fun h => by
        rcases hno with h' | ⟨_, h'⟩
        · exact absurd h h'
        · exact h')
      rcases hno with hjl | ⟨hjl, hc⟩
      · have e : j = l.length := by omega
        subst e
        simp only [↓ruleA0, ↓ruleA1, ↓ruleA2, ruleB0, ruleB1, ruleB2, ruleB3, ruleL, ↓retK, ncall, Todo_eq, packV, eqTB, litB, litV, fitL, fit, veqL, veq, sbin, sun, nilB, cellsV, oneB, okC, vals, fillV, partsE, Int.reduceLE, Int.reduceLT, Int.reduceToNat, Nat.reduceAdd, Nat.reduceEqDiff, Nat.reduceLT, Nat.reduceLeDiff, Nat.reduceMul, Nat.reduceSub, reduceCtorEq, tbAFd2, Try.results76, g5, g0, g3, gb, gr, Int.ofNat_lt, Nat.lt_irrefl, List.length_map, mapTake, mapDrop, List.take_length, List.drop_length]
        refine fun y1 => ⟨(by first | omega | (simp; omega)), fun y2 => ?_⟩
        simp only [putAt, List.getElem?_eq_none (Nat.le_refl _)] at hat
        by_cases h0 : x.n = 0
        · simp only [↓ruleA0, ↓ruleA1, ↓ruleA2, ruleB0, ruleB1, ruleB2, ruleB3, ruleL, ↓retK, ncall, Todo_eq, packV, eqTB, litB, litV, fitL, fit, veqL, veq, sbin, sun, nilB, cellsV, oneB, okC, vals, fillV, partsE, Int.reduceLE, Int.reduceLT, Int.reduceToNat, Nat.reduceAdd, Nat.reduceEqDiff, Nat.reduceLT, Nat.reduceLeDiff, Nat.reduceMul, Nat.reduceSub, reduceCtorEq, tbAFd2, Try.results76, g5, g0, g3, gb, gr, h0, Int.lt_irrefl]
          refine ⟨(by first | omega | (simp; omega)), fun y3 => ?_⟩
          rw [hat, if_pos h0]
          exact ret_le (Le.list _ _ _)
        · simp only [↓ruleA0, ↓ruleA1, ↓ruleA2, ruleB0, ruleB1, ruleB2, ruleB3, ruleL, ↓retK, ncall, Todo_eq, packV, eqTB, litB, litV, fitL, fit, veqL, veq, sbin, sun, nilB, cellsV, oneB, okC, vals, fillV, partsE, Int.reduceLE, Int.reduceLT, Int.reduceToNat, Nat.reduceAdd, Nat.reduceEqDiff, Nat.reduceLT, Nat.reduceLeDiff, Nat.reduceMul, Nat.reduceSub, reduceCtorEq, tbAFd2, Try.results76, g5, g0, g3, gb, gr, h0, Int.lt_irrefl]
          refine fun y3 => takeRF_2 ?_
          simp only [↓ruleA0, ↓ruleA1, ↓ruleA2, ruleB0, ruleB1, ruleB2, ruleB3, ruleL, ↓retK, ncall, Todo_eq, packV, eqTB, litB, litV, fitL, fit, veqL, veq, sbin, sun, nilB, cellsV, oneB, okC, vals, fillV, partsE, Int.reduceLE, Int.reduceLT, Int.reduceToNat, Nat.reduceAdd, Nat.reduceEqDiff, Nat.reduceLT, Nat.reduceLeDiff, Nat.reduceMul, Nat.reduceSub, reduceCtorEq, tbAFd2, Try.results76, g5, g0, g3, gb, gr, h0, Int.lt_irrefl]
          refine ⟨(by first | omega | (simp; omega)), fun y4 => takeRF_1 ?_⟩
          simp only [↓ruleA0, ↓ruleA1, ↓ruleA2, ruleB0, ruleB1, ruleB2, ruleB3, ruleL, ↓retK, ncall, Todo_eq, packV, eqTB, litB, litV, fitL, fit, veqL, veq, sbin, sun, nilB, cellsV, oneB, okC, vals, fillV, partsE, Int.reduceLE, Int.reduceLT, Int.reduceToNat, Nat.reduceAdd, Nat.reduceEqDiff, Nat.reduceLT, Nat.reduceLeDiff, Nat.reduceMul, Nat.reduceSub, reduceCtorEq, tbAFd2, Try.results76, g5, g0, g3, gb, gr, h0, Int.lt_irrefl]
          refine ⟨(by first | omega | (simp; omega)), fun y5 => ?_⟩
          rw [hat, if_neg h0]
          refine ret_le ?_
          show Le _ (.list none 10 ((l ++ [x]).map cDlt))
          rw [List.map_append]
          exact Le.list _ _ _
      · have hr : l.drop j = l[j] :: l.drop (j + 1) := List.drop_eq_getElem_cons hjl
        have hpos : 0 < l.length - j := by omega
        have hlt : (l.take j).length = j := by simp; omega
        have hld : (l.drop (j + 1)).length + j + 1 = l.length := by simp; omega
        simp only [putAt, List.getElem?_eq_getElem hjl, hr] at hat
        simp only [↓ruleA0, ↓ruleA1, ↓ruleA2, ruleB0, ruleB1, ruleB2, ruleB3, ruleL, ↓retK, ncall, Todo_eq, packV, eqTB, litB, litV, fitL, fit, veqL, veq, sbin, sun, nilB, cellsV, oneB, okC, vals, fillV, partsE, Int.reduceLE, Int.reduceLT, Int.reduceToNat, Nat.reduceAdd, Nat.reduceEqDiff, Nat.reduceLT, Nat.reduceLeDiff, Nat.reduceMul, Nat.reduceSub, reduceCtorEq, tbAFd2, Try.results76, g5, g0, g3, gb, gr, Int.ofNat_lt, hjl, List.length_map, getD_map]
        refine CallV_of _ (less_ok l[j] x (hf _ (List.getElem_mem hjl))).v ?_
        simp only [↓ruleA0, ↓ruleA1, ↓ruleA2, ruleB0, ruleB1, ruleB2, ruleB3, ruleL, ↓retK, ncall, Todo_eq, packV, eqTB, litB, litV, fitL, fit, veqL, veq, sbin, sun, nilB, cellsV, oneB, okC, vals, fillV, partsE, Int.reduceLE, Int.reduceLT, Int.reduceToNat, Nat.reduceAdd, Nat.reduceEqDiff, Nat.reduceLT, Nat.reduceLeDiff, Nat.reduceMul, Nat.reduceSub, reduceCtorEq, tbAFd2, Try.results76, g5, g0, g3, gb, gr, hc, hj, List.length_map, mapTake, mapDrop]
        refine fun y1 => ⟨(by first | omega | (simp; omega)), fun y2 => ?_⟩
        simp only [↓ruleA0, ↓ruleA1, ↓ruleA2, ruleB0, ruleB1, ruleB2, ruleB3, ruleL, ↓retK, ncall, Todo_eq, packV, eqTB, litB, litV, fitL, fit, veqL, veq, sbin, sun, nilB, cellsV, oneB, okC, vals, fillV, partsE, Int.reduceLE, Int.reduceLT, Int.reduceToNat, Nat.reduceAdd, Nat.reduceEqDiff, Nat.reduceLT, Nat.reduceLeDiff, Nat.reduceMul, Nat.reduceSub, reduceCtorEq, tbAFd2, Try.results76, g5, g0, g3, gb, gr, List.length_map, hr]
        refine CallV_of _ (less_ok x l[j] hx).v ?_
        cases hc2 : ltD x l[j]
        · simp only [hc2, Bool.false_eq_true, if_false] at hat
          by_cases h0 : wrap (x.n + l[j].n) = 0
          · have h0' : IntKind.i64.wrap (x.n + l[j].n) = 0 := h0
            simp only [↓ruleA0, ↓ruleA1, ↓ruleA2, ruleB0, ruleB1, ruleB2, ruleB3, ruleL, ↓retK, ncall, Todo_eq, packV, eqTB, litB, litV, fitL, fit, veqL, veq, sbin, sun, nilB, cellsV, oneB, okC, vals, fillV, partsE, Int.reduceLE, Int.reduceLT, Int.reduceToNat, Nat.reduceAdd, Nat.reduceEqDiff, Nat.reduceLT, Nat.reduceLeDiff, Nat.reduceMul, Nat.reduceSub, reduceCtorEq, tbAFd2, Try.results76, g5, g0, g3, gb, gr, List.length_map, hr, hc2, h0']
            refine ⟨(by first | omega | (simp; omega)), fun y3 => ?_⟩
            rw [hat, if_pos h0]
            refine ret_le (le_list ?_)
            rw [List.map_append, Nat.add_sub_cancel, List.take_of_length_le (l := List.map cDlt (List.drop (j + 1) l)) (by simp)]
          · have h0' : ¬ IntKind.i64.wrap (x.n + l[j].n) = 0 := h0
            simp only [↓ruleA0, ↓ruleA1, ↓ruleA2, ruleB0, ruleB1, ruleB2, ruleB3, ruleL, ↓retK, ncall, Todo_eq, packV, eqTB, litB, litV, fitL, fit, veqL, veq, sbin, sun, nilB, cellsV, oneB, okC, vals, fillV, partsE, Int.reduceLE, Int.reduceLT, Int.reduceToNat, Nat.reduceAdd, Nat.reduceEqDiff, Nat.reduceLT, Nat.reduceLeDiff, Nat.reduceMul, Nat.reduceSub, reduceCtorEq, tbAFd2, Try.results76, g5, g0, g3, gb, gr, List.length_map, hr, hc2, h0']
            refine fun y3 => takeRF_2 ?_
            simp only [↓ruleA0, ↓ruleA1, ↓ruleA2, ruleB0, ruleB1, ruleB2, ruleB3, ruleL, ↓retK, ncall, Todo_eq, packV, eqTB, litB, litV, fitL, fit, veqL, veq, sbin, sun, nilB, cellsV, oneB, okC, vals, fillV, partsE, Int.reduceLE, Int.reduceLT, Int.reduceToNat, Nat.reduceAdd, Nat.reduceEqDiff, Nat.reduceLT, Nat.reduceLeDiff, Nat.reduceMul, Nat.reduceSub, reduceCtorEq, tbAFd2, Try.results76, g5, g0, g3, gb, gr, List.length_map]
            refine ⟨(by first | omega | (simp; omega)), fun y4 => takeRF_1 ?_⟩
            simp only [↓ruleA0, ↓ruleA1, ↓ruleA2, ruleB0, ruleB1, ruleB2, ruleB3, ruleL, ↓retK, ncall, Todo_eq, packV, eqTB, litB, litV, fitL, fit, veqL, veq, sbin, sun, nilB, cellsV, oneB, okC, vals, fillV, partsE, Int.reduceLE, Int.reduceLT, Int.reduceToNat, Nat.reduceAdd, Nat.reduceEqDiff, Nat.reduceLT, Nat.reduceLeDiff, Nat.reduceMul, Nat.reduceSub, reduceCtorEq, tbAFd2, Try.results76, g5, g0, g3, gb, gr, List.length_map]
            refine ⟨(by first | omega | (simp; omega)), fun y5 => ?_⟩
            rw [hat, if_neg h0]
            refine ret_le (le_list ?_)
            rw [List.map_append, List.map_cons, Nat.add_sub_cancel, List.take_of_length_le (l := List.map cDlt (List.drop (j + 1) l)) (by simp), List.append_assoc]
            rfl
        · simp only [hc2, if_true] at hat
          by_cases h0 : x.n = 0
          · simp only [↓ruleA0, ↓ruleA1, ↓ruleA2, ruleB0, ruleB1, ruleB2, ruleB3, ruleL, ↓retK, ncall, Todo_eq, packV, eqTB, litB, litV, fitL, fit, veqL, veq, sbin, sun, nilB, cellsV, oneB, okC, vals, fillV, partsE, Int.reduceLE, Int.reduceLT, Int.reduceToNat, Nat.reduceAdd, Nat.reduceEqDiff, Nat.reduceLT, Nat.reduceLeDiff, Nat.reduceMul, Nat.reduceSub, reduceCtorEq, tbAFd2, Try.results76, g5, g0, g3, gb, gr, List.length_map, hr, hc2, h0]
            refine ⟨(by first | omega | (simp; omega)), fun y3 => ?_⟩
            rw [hat, if_pos h0]
            refine ret_le ?_
            have : l = l.take j ++ l[j] :: l.drop (j + 1) := by rw [← hr, List.take_append_drop]
            show Le _ (.list none 10 (l.map cDlt))
            have e : l.map cDlt = (l.take j ++ l[j] :: l.drop (j + 1)).map cDlt := by rw [← this]
            rw [e, List.map_append, List.map_cons]
            exact Le.list _ _ _
          · simp only [↓ruleA0, ↓ruleA1, ↓ruleA2, ruleB0, ruleB1, ruleB2, ruleB3, ruleL, ↓retK, ncall, Todo_eq, packV, eqTB, litB, litV, fitL, fit, veqL, veq, sbin, sun, nilB, cellsV, oneB, okC, vals, fillV, partsE, Int.reduceLE, Int.reduceLT, Int.reduceToNat, Nat.reduceAdd, Nat.reduceEqDiff, Nat.reduceLT, Nat.reduceLeDiff, Nat.reduceMul, Nat.reduceSub, reduceCtorEq, tbAFd2, Try.results76, g5, g0, g3, gb, gr, List.length_map, hr, hc2, h0]
            refine fun y3 => takeRF_2 ?_
            simp only [↓ruleA0, ↓ruleA1, ↓ruleA2, ruleB0, ruleB1, ruleB2, ruleB3, ruleL, ↓retK, ncall, Todo_eq, packV, eqTB, litB, litV, fitL, fit, veqL, veq, sbin, sun, nilB, cellsV, oneB, okC, vals, fillV, partsE, Int.reduceLE, Int.reduceLT, Int.reduceToNat, Nat.reduceAdd, Nat.reduceEqDiff, Nat.reduceLT, Nat.reduceLeDiff, Nat.reduceMul, Nat.reduceSub, reduceCtorEq, tbAFd2, Try.results76, g5, g0, g3, gb, gr, List.length_map]
            refine ⟨(by first | omega | (simp; omega)), fun y4 => takeRF_1 ?_⟩
            simp only [↓ruleA0, ↓ruleA1, ↓ruleA2, ruleB0, ruleB1, ruleB2, ruleB3, ruleL, ↓retK, ncall, Todo_eq, packV, eqTB, litB, litV, fitL, fit, veqL, veq, sbin, sun, nilB, cellsV, oneB, okC, vals, fillV, partsE, Int.reduceLE, Int.reduceLT, Int.reduceToNat, Nat.reduceAdd, Nat.reduceEqDiff, Nat.reduceLT, Nat.reduceLeDiff, Nat.reduceMul, Nat.reduceSub, reduceCtorEq, tbAFd2, Try.results76, g5, g0, g3, gb, gr, List.length_map]
            refine ⟨(by first | omega | (simp; omega)), fun y5 => ?_⟩
            rw [hat, if_neg h0]
            refine ret_le (le_list ?_)
            rw [List.map_append, List.map_cons, ← hr, List.append_assoc]
            rfl
    · simp only [↓ruleA0, ↓ruleA1, ↓ruleA2, ruleB0, ruleB1, ruleB2, ruleB3, ruleL, ↓retK, ncall, Todo_eq, packV, eqTB, litB, litV, fitL, fit, veqL, veq, sbin, sun, nilB, cellsV, oneB, okC, vals, fillV, partsE, Int.reduceLE, Int.reduceLT, Int.reduceToNat, Nat.reduceAdd, Nat.reduceEqDiff, Nat.reduceLT, Nat.reduceLeDiff, Nat.reduceMul, Nat.reduceSub, reduceCtorEq, tbAFd2, Try.results76, g5, g0, g3, gb, gr, Int.ofNat_lt, hjl, List.length_map, getD_map]
      refine CallV_of _ (less_ok l[j] x (hf _ (List.getElem_mem hjl))).v ?_
      simp only [↓ruleA0, ↓ruleA1, ↓ruleA2, ruleB0, ruleB1, ruleB2, ruleB3, ruleL, ↓retK, ncall, Todo_eq, packV, eqTB, litB, litV, fitL, fit, veqL, veq, sbin, sun, nilB, cellsV, oneB, okC, vals, fillV, partsE, Int.reduceLE, Int.reduceLT, Int.reduceToNat, Nat.reduceAdd, Nat.reduceEqDiff, Nat.reduceLT, Nat.reduceLeDiff, Nat.reduceMul, Nat.reduceSub, reduceCtorEq, tbAFd2, Try.results76, g5, g0, g3, gb, gr, hc, wrap_succ hjl (show l.length ≤ 9223372036854775807 by omega)]
      refine ⟨j + 1, by omega, 0, ⟨by omega, fun k h hkj => ?_⟩, rfl, rfl⟩
      by_cases e : k = j
      · subst e; exact hc
      · exact ho k h (by omega)
set_option linter.defProp false in
def tbAFd3 := (And.intro (And.intro (And.intro (And.intro (And.intro (And.intro Ty.sz3 Ty.by3) (And.intro Ty.ag3 Ty.zr3)) (And.intro (And.intro Ty.un3 Ty.sz4) (And.intro Ty.by4 (And.intro Ty.ag4 Ty.zr4)))) (And.intro (And.intro (And.intro Ty.un4 Ty.sz9) (And.intro Ty.by9 Ty.ag9)) (And.intro (And.intro Ty.zr9 Ty.un9) (And.intro Ty.sz41 (And.intro Ty.by41 Ty.ag41))))) (And.intro (And.intro (And.intro (And.intro Ty.zr41 Ty.un41) (And.intro Ty.sz53 Ty.by53)) (And.intro (And.intro Ty.ag53 Ty.zr53) (And.intro Ty.fl53_0 (And.intro Ty.pl53_0 Ty.fl53_1)))) (And.intro (And.intro (And.intro Ty.pl53_1 Ty.sz54) (And.intro Ty.by54 (And.intro Ty.ag54 Ty.zr54))) (And.intro (And.intro Ty.un54 Ty.sz56) (And.intro Ty.by56 (And.intro Ty.ag56 Ty.zr56)))))) (And.intro (And.intro (And.intro (And.intro (And.intro Ty.fl56_0 Ty.pl56_0) (And.intro Ty.fl56_1 Ty.pl56_1)) (And.intro (And.intro Ty.fl56_2 Ty.pl56_2) (And.intro Ty.fl56_3 (And.intro Ty.pl56_3 Ty.fl56_4)))) (And.intro (And.intro (And.intro Ty.pl56_4 Ty.fl56_5) (And.intro Ty.pl56_5 Ty.fl56_6)) (And.intro (And.intro Ty.pl56_6 Ty.sz61) (And.intro Ty.by61 (And.intro Ty.ag61 Ty.zr61))))) (And.intro (And.intro (And.intro (And.intro Ty.fl61_0 Ty.pl61_0) (And.intro Ty.fl61_1 Ty.pl61_1)) (And.intro (And.intro Ty.fl61_2 Ty.pl61_2) (And.intro Ty.sz109 (And.intro Ty.by109 Ty.ag109)))) (And.intro (And.intro (And.intro Ty.zr109 Ty.fl109_0) (And.intro Ty.pl109_0 (And.intro Ty.fl109_1 Ty.pl109_1))) (And.intro (And.intro Ty.fl109_2 Ty.pl109_2) (And.intro Ty.eq53 (And.intro Ty.eq109 Ty.cb76)))))))
theorem cons20_ok (d : List Dlt) (hd : d.length ≤ big) (hf : ∀ y ∈ d, okF y.row) : OkP Try.prog 55 [vDlts d] (vDlts (consM d)) := by
  refine Ok.of_ex Ty.mixed Try.func55 rfl (by simp [Try.ntmps55]) (by kernel_rfl) fun F w0 I0 => ?_
  simp only [↓ruleA0, ↓ruleA1, ↓ruleA2, ruleB0, ruleB1, ruleB2, ruleB3, ruleL, ↓retK, ncall, Todo_eq, packV, eqTB, litB, litV, fitL, fit, veqL, veq, sbin, sun, nilB, cellsV, oneB, okC, vals, fillV, partsE, Int.reduceLE, Int.reduceLT, Int.reduceToNat, Nat.reduceAdd, Nat.reduceEqDiff, Nat.reduceLT, Nat.reduceLeDiff, Nat.reduceMul, Nat.reduceSub, reduceCtorEq, tbAFd3, Try.results55]
  refine EX_for Ty.mixed (by kernel_rfl) d.length (fun i S => ∃ v, Le v (vDlts (consM (d.take i))) ∧ S.σ 3 = v ∧ S.σ 0 = vDlts d ∧ S.σ 4 = vint i ∧ S.boxes = [] ∧ S.rows = []) ⟨0, nilS, ?_⟩ (fun i S hi ⟨v, hv, g3, g0, g4, gb, gr⟩ => ?_) (fun S ⟨v, hv, g3, g0, g4, gb, gr⟩ => ?_)
  · simp only [↓ruleA0, ↓ruleA1, ↓ruleA2, ruleB0, ruleB1, ruleB2, ruleB3, ruleL, ↓retK, ncall, Todo_eq, packV, eqTB, litB, litV, fitL, fit, veqL, veq, sbin, sun, nilB, cellsV, oneB, okC, vals, fillV, partsE, Int.reduceLE, Int.reduceLT, Int.reduceToNat, Nat.reduceAdd, Nat.reduceEqDiff, Nat.reduceLT, Nat.reduceLeDiff, Nat.reduceMul, Nat.reduceSub, reduceCtorEq, tbAFd3, Try.results55]
    exact Le.nil 10
  · have hk := consM_take d i hi
    have hlen := consM_len (d.take i)
    rw [List.length_take, Nat.min_eq_left (by omega)] at hlen
    simp only [↓ruleA0, ↓ruleA1, ↓ruleA2, ruleB0, ruleB1, ruleB2, ruleB3, ruleL, ↓retK, ncall, Todo_eq, packV, eqTB, litB, litV, fitL, fit, veqL, veq, sbin, sun, nilB, cellsV, oneB, okC, vals, fillV, partsE, Int.reduceLE, Int.reduceLT, Int.reduceToNat, Nat.reduceAdd, Nat.reduceEqDiff, Nat.reduceLT, Nat.reduceLeDiff, Nat.reduceMul, Nat.reduceSub, reduceCtorEq, tbAFd3, Try.results55, g3, g0, g4, gb, gr, Int.ofNat_lt, hi, List.length_map, getD_map]
    refine OkF_le (.cons hv (.cons (Le.refl _) .nil)) _ (put_ok (consM (d.take i)) d[i] (by unfold big at *; omega) (consM_mem _ fun y hy => hf y (List.mem_of_mem_take hy)) (hf _ (List.getElem_mem hi))) ?_
    simp only [↓ruleA0, ↓ruleA1, ↓ruleA2, ruleB0, ruleB1, ruleB2, ruleB3, ruleL, ↓retK, ncall, Todo_eq, packV, eqTB, litB, litV, fitL, fit, veqL, veq, sbin, sun, nilB, cellsV, oneB, okC, vals, fillV, partsE, Int.reduceLE, Int.reduceLT, Int.reduceToNat, Nat.reduceAdd, Nat.reduceEqDiff, Nat.reduceLT, Nat.reduceLeDiff, Nat.reduceMul, Nat.reduceSub, reduceCtorEq, tbAFd3, Try.results55, g3, g0, g4, gb, gr, wrap_succ hi (Nat.le_trans hd (by decide))]
    rw [hk]
    exact ⟨0, _, Le.refl _, rfl⟩
  · simp only [↓ruleA0, ↓ruleA1, ↓ruleA2, ruleB0, ruleB1, ruleB2, ruleB3, ruleL, ↓retK, ncall, Todo_eq, packV, eqTB, litB, litV, fitL, fit, veqL, veq, sbin, sun, nilB, cellsV, oneB, okC, vals, fillV, partsE, Int.reduceLE, Int.reduceLT, Int.reduceToNat, Nat.reduceAdd, Nat.reduceEqDiff, Nat.reduceLT, Nat.reduceLeDiff, Nat.reduceMul, Nat.reduceSub, reduceCtorEq, tbAFd3, Try.results55, g3, g0, g4, gb, gr, Int.ofNat_lt, Nat.lt_irrefl, List.length_map]
    rw [List.take_of_length_le (Nat.le_refl _)] at hv
    exact ret_le hv
end Go.Proofs.Ytopfanlkbepemaa

/- Arrangements: contracts, part e: the program's marks. -/
set_option linter.unusedSimpArgs false
set_option maxRecDepth 100000
namespace Go.Proofs.Ytopfanlkbepemaa
open Go.VL Go.Ar Go.Proofs.Ytopfanlkbepemaa

def byte (n : Int) (i : Nat) : Int := IntKind.u8.wrap (n.fdiv (2 ^ (8 * i)))
def bytes8 (n : Int) : List Int := (List.range 8).map (byte n)
def strB (s : Str) : List Int := s.data.toList.map fun b => (b.toNat : Int)
def encV (v : Val) : List Int := bytes8 v.kind ++ bytes8 v.n ++ bytes8 v.s.size ++ strB v.s
def encL (l : List Val) : List Int := l.flatMap encV
structure Mrk where
  id : FID
  table : Str
  key : Str
  event : Int
  no : Int
  rt : Int
  tick : Int
  text : Str
  deriving DecidableEq
abbrev cMrk (m : Mrk) : List V := [vstr m.id.src, vint m.id.seq, vstr m.table, vstr m.key, vint m.event, vint m.no, vint m.rt, vint m.tick, vstr m.text]
def markM (r : Rw) (t : Int) : Mrk := ⟨r.id, r.table, r.key, r.event, r.no, r.tick, t, strOf (encL r.fields)⟩
abbrev cB (n : Int) : List V := [.lit (.int .u8 n)]

theorem flat8 (l : List Int) : (l.flatMap bytes8).length = 8 * l.length := by
  induction l with
  | nil => rfl
  | cons x l ih => simp only [List.flatMap_cons, List.length_append, ih, List.length_cons, bytes8, List.length_map, List.length_range]; omega

set_option linter.defProp false in
def tbAGa0 := (And.intro (And.intro (And.intro (And.intro (And.intro (And.intro Ty.sz3 Ty.by3) (And.intro Ty.ag3 (And.intro Ty.zr3 Ty.un3))) (And.intro (And.intro Ty.sz4 (And.intro Ty.by4 Ty.ag4)) (And.intro Ty.zr4 (And.intro Ty.un4 Ty.sz5)))) (And.intro (And.intro (And.intro Ty.by5 (And.intro Ty.ag5 Ty.zr5)) (And.intro Ty.un5 (And.intro Ty.sz9 Ty.by9))) (And.intro (And.intro Ty.ag9 (And.intro Ty.zr9 Ty.un9)) (And.intro Ty.sz53 (And.intro Ty.by53 Ty.ag53))))) (And.intro (And.intro (And.intro (And.intro Ty.zr53 (And.intro Ty.fl53_0 Ty.pl53_0)) (And.intro Ty.fl53_1 (And.intro Ty.pl53_1 Ty.sz54))) (And.intro (And.intro Ty.by54 (And.intro Ty.ag54 Ty.zr54)) (And.intro Ty.un54 (And.intro Ty.sz56 Ty.by56)))) (And.intro (And.intro (And.intro Ty.ag56 (And.intro Ty.zr56 Ty.fl56_0)) (And.intro Ty.pl56_0 (And.intro Ty.fl56_1 Ty.pl56_1))) (And.intro (And.intro Ty.fl56_2 (And.intro Ty.pl56_2 Ty.fl56_3)) (And.intro Ty.pl56_3 (And.intro Ty.fl56_4 Ty.pl56_4)))))) (And.intro (And.intro (And.intro (And.intro (And.intro Ty.fl56_5 Ty.pl56_5) (And.intro Ty.fl56_6 (And.intro Ty.pl56_6 Ty.sz98))) (And.intro (And.intro Ty.by98 (And.intro Ty.ag98 Ty.zr98)) (And.intro Ty.un98 (And.intro Ty.sz103 Ty.by103)))) (And.intro (And.intro (And.intro Ty.ag103 (And.intro Ty.zr103 Ty.fl103_0)) (And.intro Ty.pl103_0 (And.intro Ty.fl103_1 Ty.pl103_1))) (And.intro (And.intro Ty.fl103_2 (And.intro Ty.pl103_2 Ty.fl103_3)) (And.intro Ty.pl103_3 (And.intro Ty.fl103_4 Ty.pl103_4))))) (And.intro (And.intro (And.intro (And.intro Ty.fl103_5 (And.intro Ty.pl103_5 Ty.fl103_6)) (And.intro Ty.pl103_6 (And.intro Ty.fl103_7 Ty.pl103_7))) (And.intro (And.intro Ty.sz109 (And.intro Ty.by109 Ty.ag109)) (And.intro Ty.zr109 (And.intro Ty.fl109_0 Ty.pl109_0)))) (And.intro (And.intro (And.intro Ty.fl109_1 (And.intro Ty.pl109_1 Ty.fl109_2)) (And.intro Ty.pl109_2 (And.intro Ty.sz115 Ty.by115))) (And.intro (And.intro Ty.ag115 (And.intro Ty.zr115 Ty.un115)) (And.intro Ty.eq53 (And.intro Ty.eq103 Ty.eq109)))))))
theorem mark_ok (r : Rw) (t : Int) (hf : r.fields.length ≤ big) (hs : (encL r.fields).length ≤ 1099511627776) : OkP Try.prog 71 [.agg (cRow r), vint t] (.agg (cMrk (markM r t))) := by
  refine Ok.of_ex Ty.mixed Try.func71 rfl (by simp [Try.ntmps71]) (by kernel_rfl) fun F w0 I0 => ?_
  unfold big at hf
  simp only [↓ruleA0, ↓ruleA1, ↓ruleA2, ruleB0, ruleB1, ruleB2, ruleB3, ruleL, ↓retK, ncall, Todo_eq, packV, eqTB, litB, litV, fitL, fit, veqL, veq, sbin, sun, nilB, cellsV, oneB, okC, vals, fillV, partsE, Int.reduceLE, Int.reduceLT, Int.reduceToNat, Nat.reduceAdd, Nat.reduceEqDiff, Nat.reduceLT, Nat.reduceLeDiff, Nat.reduceMul, Nat.reduceSub, reduceCtorEq, tbAGa0, Try.results71]
  refine fun b1 h1 => ?_; replace h1 := newb h1; try simp only [Nb] at h1
  simp only [↓ruleA0, ↓ruleA1, ↓ruleA2, ruleB0, ruleB1, ruleB2, ruleB3, ruleL, ↓retK, ncall, Todo_eq, packV, eqTB, litB, litV, fitL, fit, veqL, veq, sbin, sun, nilB, cellsV, oneB, okC, vals, fillV, partsE, Int.reduceLE, Int.reduceLT, Int.reduceToNat, Nat.reduceAdd, Nat.reduceEqDiff, Nat.reduceLT, Nat.reduceLeDiff, Nat.reduceMul, Nat.reduceSub, reduceCtorEq, tbAGa0, Try.results71]
  refine fun b2 h2 => ?_; replace h2 := newb h2; try simp only [Nb] at h2
  simp only [↓ruleA0, ↓ruleA1, ↓ruleA2, ruleB0, ruleB1, ruleB2, ruleB3, ruleL, ↓retK, ncall, Todo_eq, packV, eqTB, litB, litV, fitL, fit, veqL, veq, sbin, sun, nilB, cellsV, oneB, okC, vals, fillV, partsE, Int.reduceLE, Int.reduceLT, Int.reduceToNat, Nat.reduceAdd, Nat.reduceEqDiff, Nat.reduceLT, Nat.reduceLeDiff, Nat.reduceMul, Nat.reduceSub, reduceCtorEq, tbAGa0, Try.results71, h1, h2]
  refine AWP.nilRow 5 1 5 (by simp only [↓ruleA0, ↓ruleA1, ↓ruleA2, ruleB0, ruleB1, ruleB2, ruleB3, ruleL, ↓retK, ncall, Todo_eq, packV, eqTB, litB, litV, fitL, fit, veqL, veq, sbin, sun, nilB, cellsV, oneB, okC, vals, fillV, partsE, Int.reduceLE, Int.reduceLT, Int.reduceToNat, Nat.reduceAdd, Nat.reduceEqDiff, Nat.reduceLT, Nat.reduceLeDiff, Nat.reduceMul, Nat.reduceSub, reduceCtorEq, tbAGa0, Try.results71]) (by decide) ?_
  refine EX_for Ty.mixed (by kernel_rfl) r.fields.length (fun i S => ∃ y, S.σ 5 = .list (some y) 1 ((encL (r.fields.take i)).map cB) ∧ S.rows = [⟨y, 1, 5⟩] ∧ S.σ 1 = vint t ∧ S.σ 2 = ptr b1 ∧ S.σ 4 = ptr b2 ∧ S.σ 12 = vVals r.fields ∧ S.σ 13 = vint r.fields.length ∧ S.σ 14 = vint i ∧ S.boxes = [(b2, .c (cMrk ⟨⟨⟨#[]⟩, 0⟩, ⟨#[]⟩, ⟨#[]⟩, 0, 0, 0, 0, ⟨#[]⟩⟩)), (b1, .c (cRow r))]) ⟨0, nilv, ?_⟩ (fun i S hi ⟨y, g5, gr, g1, g2, g4, g12, g13, g14, gb⟩ => ?_) (fun S ⟨y, g5, gr, g1, g2, g4, g12, g13, g14, gb⟩ => ?_)
  · simp only [↓ruleA0, ↓ruleA1, ↓ruleA2, ruleB0, ruleB1, ruleB2, ruleB3, ruleL, ↓retK, ncall, Todo_eq, packV, eqTB, litB, litV, fitL, fit, veqL, veq, sbin, sun, nilB, cellsV, oneB, okC, vals, fillV, partsE, Int.reduceLE, Int.reduceLT, Int.reduceToNat, Nat.reduceAdd, Nat.reduceEqDiff, Nat.reduceLT, Nat.reduceLeDiff, Nat.reduceMul, Nat.reduceSub, reduceCtorEq, tbAGa0, Try.results71]
    simp [encL]
  · simp only [↓ruleA0, ↓ruleA1, ↓ruleA2, ruleB0, ruleB1, ruleB2, ruleB3, ruleL, ↓retK, ncall, Todo_eq, packV, eqTB, litB, litV, fitL, fit, veqL, veq, sbin, sun, nilB, cellsV, oneB, okC, vals, fillV, partsE, Int.reduceLE, Int.reduceLT, Int.reduceToNat, Nat.reduceAdd, Nat.reduceEqDiff, Nat.reduceLT, Nat.reduceLeDiff, Nat.reduceMul, Nat.reduceSub, reduceCtorEq, tbAGa0, Try.results71, h1, h2, g5, gr, g1, g2, g4, g12, g13, g14, gb, Int.ofNat_lt, hi, List.length_map, getD_map]
    refine fun b3 h3 => ?_; replace h3 := newb h3; try simp only [Nb] at h3
    simp only [↓ruleA0, ↓ruleA1, ↓ruleA2, ruleB0, ruleB1, ruleB2, ruleB3, ruleL, ↓retK, ncall, Todo_eq, packV, eqTB, litB, litV, fitL, fit, veqL, veq, sbin, sun, nilB, cellsV, oneB, okC, vals, fillV, partsE, Int.reduceLE, Int.reduceLT, Int.reduceToNat, Nat.reduceAdd, Nat.reduceEqDiff, Nat.reduceLT, Nat.reduceLeDiff, Nat.reduceMul, Nat.reduceSub, reduceCtorEq, tbAGa0, Try.results71, h1, h2, h3, gb]
    intro y3
    refine AWP.dropRows 1 ?_
    generalize hns : ([r.fields[i].kind, r.fields[i].n, (r.fields[i].s.size : Int)] : List Int) = ns
    have hl3 : ns.length = 3 := by rw [← hns]; rfl
    have hmp : [[vint r.fields[i].kind], [vint r.fields[i].n], [vint r.fields[i].s.size]] = ns.map fun n => [vint n] := by rw [← hns]; rfl
    generalize hA : encL (r.fields.take i) = A at g5
    have hAl : A.length ≤ (encL r.fields).length := by
      rw [← hA]
      conv => rhs; rw [← List.take_append_drop i r.fields]
      simp only [encL, List.flatMap_append, List.length_append]; omega
    refine EX_for Ty.mixed (by kernel_rfl) 3 (fun j S => ∃ y, S.σ 5 = .list (some y) 1 ((A ++ (ns.take j).flatMap bytes8).map cB) ∧ S.rows = [⟨y, 1, 5⟩] ∧ S.σ 1 = vint t ∧ S.σ 2 = ptr b1 ∧ S.σ 4 = ptr b2 ∧ S.σ 7 = ptr b3 ∧ S.σ 12 = vVals r.fields ∧ S.σ 13 = vint r.fields.length ∧ S.σ 14 = vint i ∧ S.σ 25 = .list (some y3) 1 (ns.map fun n => [vint n]) ∧ S.σ 26 = vint 3 ∧ S.σ 27 = vint j ∧ S.boxes = [(b3, .c (cVal r.fields[i])), (b2, .c (cMrk ⟨⟨⟨#[]⟩, 0⟩, ⟨#[]⟩, ⟨#[]⟩, 0, 0, 0, 0, ⟨#[]⟩⟩)), (b1, .c (cRow r))]) ⟨0, y, ?_⟩ (fun j S hj ⟨y, g5, gr, g1, g2, g4, g7, g12, g13, g14, g25, g26, g27, gb⟩ => ?_) (fun S ⟨y, g5, gr, g1, g2, g4, g7, g12, g13, g14, g25, g26, g27, gb⟩ => ?_)
    · simp only [↓ruleA0, ↓ruleA1, ↓ruleA2, ruleB0, ruleB1, ruleB2, ruleB3, ruleL, ↓retK, ncall, Todo_eq, packV, eqTB, litB, litV, fitL, fit, veqL, veq, sbin, sun, nilB, cellsV, oneB, okC, vals, fillV, partsE, Int.reduceLE, Int.reduceLT, Int.reduceToNat, Nat.reduceAdd, Nat.reduceEqDiff, Nat.reduceLT, Nat.reduceLeDiff, Nat.reduceMul, Nat.reduceSub, reduceCtorEq, tbAGa0, Try.results71, g5, gr, g1, g2, g4, g12, g13, g14, gb, h1, h2, h3]
      refine ⟨by simp, ?_, rfl⟩
      rw [← hmp]
    · have hj3 : (j : Int) < 3 := by omega
      have hjl : j < ns.length := by omega
      simp only [↓ruleA0, ↓ruleA1, ↓ruleA2, ruleB0, ruleB1, ruleB2, ruleB3, ruleL, ↓retK, ncall, Todo_eq, packV, eqTB, litB, litV, fitL, fit, veqL, veq, sbin, sun, nilB, cellsV, oneB, okC, vals, fillV, partsE, Int.reduceLE, Int.reduceLT, Int.reduceToNat, Nat.reduceAdd, Nat.reduceEqDiff, Nat.reduceLT, Nat.reduceLeDiff, Nat.reduceMul, Nat.reduceSub, reduceCtorEq, tbAGa0, Try.results71, g5, gr, g1, g2, g4, g7, g12, g13, g14, g25, g26, g27, gb, h1, h2, h3, hj3, List.length_map, hl3, hj, show ((3 : Nat) : Int) = 3 from rfl, getD_map (fun n => [vint n]) ns j hjl]
      generalize hB : A ++ (ns.take j).flatMap bytes8 = B at g5
      refine EX_forR Ty.mixed (by kernel_rfl) 8 (fun k S => ∃ y, S.σ 5 = .list (some y) 1 ((B ++ (List.range k).map (byte ns[j])).map cB) ∧ S.rows = [⟨y, 1, 5⟩] ∧ S.σ 1 = vint t ∧ S.σ 2 = ptr b1 ∧ S.σ 4 = ptr b2 ∧ S.σ 7 = ptr b3 ∧ S.σ 9 = vint ns[j] ∧ S.σ 12 = vVals r.fields ∧ S.σ 13 = vint r.fields.length ∧ S.σ 14 = vint i ∧ S.σ 25 = .list (some y3) 1 (ns.map fun n => [vint n]) ∧ S.σ 26 = vint 3 ∧ S.σ 27 = vint j ∧ S.σ 31 = vint k ∧ S.boxes = [(b3, .c (cVal r.fields[i])), (b2, .c (cMrk ⟨⟨⟨#[]⟩, 0⟩, ⟨#[]⟩, ⟨#[]⟩, 0, 0, 0, 0, ⟨#[]⟩⟩)), (b1, .c (cRow r))]) ⟨0, 1, y, ?_⟩ (fun k S hk ⟨y, g5, gr, g1, g2, g4, g7, g9, g12, g13, g14, g25, g26, g27, g31, gb⟩ => ?_) (fun S ⟨y, g5, gr, g1, g2, g4, g7, g9, g12, g13, g14, g25, g26, g27, g31, gb⟩ => ?_)
      · simp only [↓ruleA0, ↓ruleA1, ↓ruleA2, ruleB0, ruleB1, ruleB2, ruleB3, ruleL, ↓retK, ncall, Todo_eq, packV, eqTB, litB, litV, fitL, fit, veqL, veq, sbin, sun, nilB, cellsV, oneB, okC, vals, fillV, partsE, Int.reduceLE, Int.reduceLT, Int.reduceToNat, Nat.reduceAdd, Nat.reduceEqDiff, Nat.reduceLT, Nat.reduceLeDiff, Nat.reduceMul, Nat.reduceSub, reduceCtorEq, tbAGa0, Try.results71, g5, gr, g1, g2, g4, g7, g12, g13, g14, g25, g26, g27, gb]
        simp
      · have hk8 : (k : Int) < 8 := by omega
        have hsh : IntKind.i64.wrap (8 * (k : Int)) = ((8 * k : Nat) : Int) := by rw [wrap_id (by omega) (by omega)]; rfl
        have hp : (0 : Int) ≤ ((8 * k : Nat) : Int) := Int.natCast_nonneg _
        have hmin : min (8 * k) IntKind.i64.bits = 8 * k := Nat.min_eq_left (by show 8 * k ≤ 64; omega)
        simp only [↓ruleA0, ↓ruleA1, ↓ruleA2, ruleB0, ruleB1, ruleB2, ruleB3, ruleL, ↓retK, ncall, Todo_eq, packV, eqTB, litB, litV, fitL, fit, veqL, veq, sbin, sun, nilB, cellsV, oneB, okC, vals, fillV, partsE, Int.reduceLE, Int.reduceLT, Int.reduceToNat, Nat.reduceAdd, Nat.reduceEqDiff, Nat.reduceLT, Nat.reduceLeDiff, Nat.reduceMul, Nat.reduceSub, reduceCtorEq, tbAGa0, Try.results71, g5, gr, g1, g2, g4, g7, g9, g12, g13, g14, g25, g26, g27, g31, gb, hk8, hsh, hp, hmin]
        refine fun y1 => takeRF_2 ?_
        simp only [↓ruleA0, ↓ruleA1, ↓ruleA2, ruleB0, ruleB1, ruleB2, ruleB3, ruleL, ↓retK, ncall, Todo_eq, packV, eqTB, litB, litV, fitL, fit, veqL, veq, sbin, sun, nilB, cellsV, oneB, okC, vals, fillV, partsE, Int.reduceLE, Int.reduceLT, Int.reduceToNat, Nat.reduceAdd, Nat.reduceEqDiff, Nat.reduceLT, Nat.reduceLeDiff, Nat.reduceMul, Nat.reduceSub, reduceCtorEq, tbAGa0, Try.results71, g5, gr, g1, g2, g4, g7, g9, g12, g13, g14, g25, g26, g27, g31, gb, wrap_succ hk (show 8 ≤ 9223372036854775807 by decide)]
        have hBl : B.length ≤ A.length + 24 := by
          rw [← hB, List.length_append, flat8, List.length_take]; omega
        refine ⟨by simp only [List.length_map, List.length_append, List.length_range]; omega, fun y' => ⟨0, 1, y', ?_, rfl, rfl⟩⟩
        simp only [List.range_succ, List.map_append, List.append_assoc, List.map_cons, List.map_nil]
        rfl
      · simp only [↓ruleA0, ↓ruleA1, ↓ruleA2, ruleB0, ruleB1, ruleB2, ruleB3, ruleL, ↓retK, ncall, Todo_eq, packV, eqTB, litB, litV, fitL, fit, veqL, veq, sbin, sun, nilB, cellsV, oneB, okC, vals, fillV, partsE, Int.reduceLE, Int.reduceLT, Int.reduceToNat, Nat.reduceAdd, Nat.reduceEqDiff, Nat.reduceLT, Nat.reduceLeDiff, Nat.reduceMul, Nat.reduceSub, reduceCtorEq, tbAGa0, Try.results71, g5, gr, g1, g2, g4, g7, g9, g12, g13, g14, g25, g26, g27, g31, gb, show ((8 : Nat) : Int) = 8 from rfl, wrap_succ hj (show 3 ≤ 9223372036854775807 by decide)]
        refine ⟨0, y, ?_, rfl, rfl⟩
        rw [List.take_succ_eq_append_getElem hjl, ← hB]
        simp only [List.flatMap_append, List.flatMap_cons, List.flatMap_nil, List.append_nil, List.append_assoc]
        rfl
    · simp only [↓ruleA0, ↓ruleA1, ↓ruleA2, ruleB0, ruleB1, ruleB2, ruleB3, ruleL, ↓retK, ncall, Todo_eq, packV, eqTB, litB, litV, fitL, fit, veqL, veq, sbin, sun, nilB, cellsV, oneB, okC, vals, fillV, partsE, Int.reduceLE, Int.reduceLT, Int.reduceToNat, Nat.reduceAdd, Nat.reduceEqDiff, Nat.reduceLT, Nat.reduceLeDiff, Nat.reduceMul, Nat.reduceSub, reduceCtorEq, tbAGa0, Try.results71, g5, gr, g1, g2, g4, g7, g12, g13, g14, g25, g26, g27, gb, h1, h2, h3, show ((3 : Nat) : Int) = 3 from rfl, wrap_succ hi (Nat.le_trans hf (by decide))]
      have hE : encL (r.fields.take (i + 1)) = A ++ (ns.flatMap bytes8 ++ strB r.fields[i].s) := by
        rw [List.take_succ_eq_append_getElem hi, ← hA, ← hns]
        simp only [encL, List.flatMap_append, List.flatMap_cons, List.flatMap_nil, encV, List.append_nil, List.append_assoc]
      have hEl : (encL (r.fields.take (i + 1))).length ≤ (encL r.fields).length := by
        conv => rhs; rw [← List.take_append_drop (i + 1) r.fields]
        simp only [encL, List.flatMap_append, List.length_append]; omega
      have hse : strE r.fields[i].s = (strB r.fields[i].s).map cB := by simp [strE, bytesV, strB]
      have h3 : ns.take 3 = ns := List.take_of_length_le (by omega)
      rw [h3, hse, ← List.map_append, List.append_assoc, ← hE]
      refine ⟨?_, fun y' => ⟨1, y', rfl, rfl, rfl⟩⟩
      rw [hE, List.length_append, List.length_append] at hEl
      simp only [List.length_append, List.length_map]
      omega
  · simp only [↓ruleA0, ↓ruleA1, ↓ruleA2, ruleB0, ruleB1, ruleB2, ruleB3, ruleL, ↓retK, ncall, Todo_eq, packV, eqTB, litB, litV, fitL, fit, veqL, veq, sbin, sun, nilB, cellsV, oneB, okC, vals, fillV, partsE, Int.reduceLE, Int.reduceLT, Int.reduceToNat, Nat.reduceAdd, Nat.reduceEqDiff, Nat.reduceLT, Nat.reduceLeDiff, Nat.reduceMul, Nat.reduceSub, reduceCtorEq, tbAGa0, Try.results71, h1, h2, g5, gr, g1, g2, g4, g12, g13, g14, gb, Int.ofNat_lt, Nat.lt_irrefl, List.length_map]
    refine ⟨by simp, encL r.fields, ?_, ?_⟩
    · rw [List.take_of_length_le (Nat.le_refl _)]
      induction encL r.fields with
      | nil => rfl
      | cons x l ih => simp [ih]
    · simp only [↓ruleA0, ↓ruleA1, ↓ruleA2, ruleB0, ruleB1, ruleB2, ruleB3, ruleL, ↓retK, ncall, Todo_eq, packV, eqTB, litB, litV, fitL, fit, veqL, veq, sbin, sun, nilB, cellsV, oneB, okC, vals, fillV, partsE, Int.reduceLE, Int.reduceLT, Int.reduceToNat, Nat.reduceAdd, Nat.reduceEqDiff, Nat.reduceLT, Nat.reduceLeDiff, Nat.reduceMul, Nat.reduceSub, reduceCtorEq, tbAGa0, Try.results71, h1, h2, g1, g2, g4, gb]
      exact ret_done rfl
end Go.Proofs.Ytopfanlkbepemaa

/- Arrangements: the plain law on the order of deltas: total, and what consolidation comes to. -/
namespace Go.Ar
open Go.VL

/-- A comparison: antisymmetric, transitive. -/
structure Pre {α : Type} (c : α → α → Int) : Prop where
  anti : ∀ a b, c b a = - c a b
  trans : ∀ a b d, c a b ≤ 0 → c b d ≤ 0 → c a d ≤ 0

section
variable {α β : Type}
theorem Pre.refl {c : α → α → Int} (h : Pre c) (a : α) : c a a = 0 := by have := h.anti a a; omega
theorem Pre.pull {c : α → α → Int} (h : Pre c) (f : β → α) : Pre fun a b => c (f a) (f b) := ⟨fun a b => h.anti _ _, fun a b d => h.trans _ _ _⟩
theorem Pre.lex {c d : α → α → Int} (h : Pre c) (h' : Pre d) : Pre fun a b => if c a b = 0 then d a b else c a b where
  anti a b := by
    have e := h.anti a b
    by_cases h0 : c a b = 0
    · rw [if_pos h0, if_pos (by omega)]; exact h'.anti a b
    · rw [if_neg h0, if_neg (by omega)]; exact e
  trans a b x := by
    have e1 := h.anti a b; have e2 := h.anti b x; have e3 := h.anti a x
    have t1 := h.trans a b x; have t2 := h.trans x a b; have t3 := h.trans b x a
    have t4 := h.trans a x b; have t5 := h.trans b a x; have t6 := h.trans x b a
    have t := h'.trans a b x
    intro h1 h2
    split at h1 <;> split at h2 <;> split <;> first | omega | (exact t h1 h2)
theorem Pre.lt_trans {c : α → α → Int} (h : Pre c) {a b d : α} (h1 : c a b < 0) (h2 : c b d < 0) : c a d < 0 := by
  have e1 := h.anti a b; have e2 := h.anti b d; have e3 := h.anti a d
  have t1 := h.trans a b d (by omega) (by omega)
  have t2 := h.trans d a b
  omega
theorem pre_swo {c : α → α → Int} (h : Pre c) : Go.Sort.SWO (Go.Proofs.ltOf c) where
  irrefl x := by simp [Go.Proofs.ltOf, h.refl]
  trans x y z h1 h2 := by
    simp only [Go.Proofs.ltOf, decide_eq_true_eq] at *
    exact h.lt_trans h1 h2
  ntrans x y z h1 h2 := by
    simp only [Go.Proofs.ltOf, decide_eq_false_iff_not] at *
    have e1 := h.anti x y; have e2 := h.anti y z; have e3 := h.anti x z
    have := h.trans z y x
    omega
end

theorem pre_cmpI : Pre cmpI := ⟨fun a b => by unfold cmpI; repeat' split; all_goals omega, fun a b d => by unfold cmpI; repeat' split; all_goals omega⟩

/-- Bytes. -/
def cmpB (a b : List UInt8) : Int := if Op.bytesLess a b = true then -1 else if a = b then 0 else 1
theorem pre_cmpB : Pre cmpB := by
  have cons : ∀ (x y : UInt8) (l m : List UInt8), cmpB (x :: l) (y :: m) = if cmpI x.toNat y.toNat = 0 then cmpB l m else cmpI x.toNat y.toNat := by
    intro x y l m
    unfold cmpB cmpI
    simp only [Op.bytesLess, UInt8.lt_iff_toNat_lt, List.cons.injEq]
    by_cases e : x = y
    · subst e; simp
    · have : x.toNat ≠ y.toNat := fun h => e (UInt8.toNat_inj.1 h)
      rcases Nat.lt_or_gt_of_ne this with h | h
      · simp [h, e]
      · simp [e, Nat.not_lt.2 (Nat.le_of_lt h), h, show ¬ ((x.toNat : Int) < y.toNat) by omega]
  have nil1 : ∀ (y : UInt8) (m : List UInt8), cmpB [] (y :: m) = -1 := fun _ _ => by simp [cmpB, Op.bytesLess]
  have nil2 : ∀ (y : UInt8) (m : List UInt8), cmpB (y :: m) [] = 1 := fun _ _ => by simp [cmpB, Op.bytesLess]
  have nil : cmpB [] [] = 0 := by simp [cmpB, Op.bytesLess]
  refine ⟨fun a => ?_, fun a => ?_⟩
  · induction a with
    | nil => intro b; cases b <;> simp [nil, nil1, nil2]
    | cons x a ih => intro b; cases b with
      | nil => simp [nil1, nil2]
      | cons y b =>
        rw [cons, cons, ih b, pre_cmpI.anti]
        by_cases h : cmpI (x.toNat : Int) y.toNat = 0
        · rw [if_pos h, if_pos (by omega)]
        · rw [if_neg h, if_neg (by omega)]
  · induction a with
    | nil => intro b d; cases b <;> cases d <;> simp [nil, nil1, nil2]
    | cons x a ih => intro b d; cases b with
      | nil => simp [nil2]
      | cons y b => cases d with
        | nil => intro _ h; simp [nil2] at h
        | cons z d =>
          rw [cons, cons, cons]
          have e1 := pre_cmpI.anti (x.toNat : Int) y.toNat; have e2 := pre_cmpI.anti (y.toNat : Int) z.toNat; have e3 := pre_cmpI.anti (x.toNat : Int) z.toNat
          have t1 := pre_cmpI.trans (x.toNat : Int) y.toNat z.toNat; have t2 := pre_cmpI.trans (z.toNat : Int) x.toNat y.toNat; have t3 := pre_cmpI.trans (y.toNat : Int) z.toNat x.toNat
          have t := ih b d
          intro h1 h2
          split at h1 <;> split at h2 <;> split <;> first | omega | (exact t h1 h2)
theorem cmpS_B (a b : Str) : cmpS a b = cmpB a.data.toList b.data.toList := by
  have : (a = b) ↔ (a.data.toList = b.data.toList) := ⟨fun h => by rw [h], fun h => ByteArray.ext (Array.ext' h)⟩
  unfold cmpS cmpB less
  by_cases h : Op.bytesLess a.data.toList b.data.toList = true
  · simp [h]
  · by_cases e : a = b
    · simp [h, e]
    · have e' : ¬ a.data.toList = b.data.toList := fun x => e (this.2 x)
      rw [if_neg h, if_neg h, if_neg e', if_neg]
      simpa [h] using e
theorem pre_cmpS : Pre cmpS := by
  have := pre_cmpB.pull fun s : Str => s.data.toList
  rwa [show cmpS = fun a b => cmpB a.data.toList b.data.toList from funext fun a => funext fun b => cmpS_B a b]

theorem orL2 (a b : Int) : orL [a, b] = if a = 0 then b else a := by
  simp only [orL]
  by_cases h : a = 0
  · by_cases h' : b = 0 <;> simp [h, h']
  · simp [h]
theorem orL_cons (a : Int) (l : List Int) : orL (a :: l) = if a = 0 then orL l else a := rfl
theorem orL1 (a : Int) : orL [a] = a := by simp only [orL]; split <;> simp [*]

theorem pre_cmpID : Pre cmpID := by
  have h := (pre_cmpS.pull FID.src).lex (pre_cmpI.pull FID.seq)
  have e : cmpID = fun a b => if cmpS a.src b.src = 0 then cmpI a.seq b.seq else cmpS a.src b.src := by
    funext a b
    unfold cmpID
    rw [orL2]
    by_cases e : a = b
    · subst e; simp [cmpS_refl, cmpI]
    · simp [e]
  rwa [e]
theorem pre_cmpRow : Pre cmpRow := by
  have h := (pre_cmpI.pull Rw.event).lex (pre_cmpID.pull Rw.id)
  rwa [show cmpRow = _ from funext fun a => funext fun b => orL2 _ _]
theorem pre_cmpVal : Pre cmpVal := by
  have h := (pre_cmpI.pull Val.kind).lex ((pre_cmpI.pull Val.n).lex (pre_cmpS.pull Val.s))
  rwa [show cmpVal = _ from funext fun a => funext fun b => show orL _ = _ by rw [orL_cons, orL2]]
theorem pre_cmpL : Pre cmpL := by
  refine ⟨fun a => ?_, fun a => ?_⟩
  · induction a with
    | nil => intro b; cases b <;> simp [cmpL]
    | cons x a ih => intro b; cases b with
      | nil => simp [cmpL]
      | cons y b =>
        simp only [cmpL]
        rw [ih b, pre_cmpVal.anti]
        by_cases h : cmpVal x y = 0
        · rw [if_pos h, if_pos (by omega)]
        · rw [if_neg h, if_neg (by omega)]
  · induction a with
    | nil => intro b d; cases b <;> cases d <;> simp [cmpL]
    | cons x a ih => intro b d; cases b with
      | nil => simp [cmpL]
      | cons y b => cases d with
        | nil => intro _ h; simp [cmpL] at h
        | cons z d =>
          simp only [cmpL]
          have e1 := pre_cmpVal.anti x y; have e2 := pre_cmpVal.anti y z; have e3 := pre_cmpVal.anti x z
          have t1 := pre_cmpVal.trans x y z; have t2 := pre_cmpVal.trans z x y; have t3 := pre_cmpVal.trans y z x
          have t := ih b d
          intro h1 h2
          split at h1 <;> split at h2 <;> split <;> first | omega | (exact t h1 h2)
theorem pre_cmpFull : Pre cmpFull := by
  have h := pre_cmpRow.lex ((pre_cmpI.pull Rw.no).lex ((pre_cmpI.pull Rw.tick).lex ((pre_cmpS.pull Rw.table).lex ((pre_cmpS.pull Rw.key).lex (pre_cmpL.pull Rw.fields)))))
  rwa [show cmpFull = _ from funext fun a => funext fun b => show orL _ = _ by rw [orL_cons, orL_cons, orL_cons, orL_cons, orL2]]
theorem pre_cmpD : Pre cmpD := by
  have h := (pre_cmpI.pull Dlt.tick).lex (pre_cmpFull.pull Dlt.row)
  rwa [show cmpD = _ from funext fun a => funext fun b => orL2 _ _]
theorem ite0 {x y : Int} (h : (if x = 0 then y else x) = 0) : x = 0 ∧ y = 0 := by
  split at h
  · rename_i h0; exact ⟨h0, h⟩
  · contradiction
theorem cmpVal_eq0 {a b : Val} : cmpVal a b = 0 ↔ a = b := by
  unfold cmpVal
  rw [orL_cons, orL2]
  constructor
  · intro h
    split at h
    · rename_i h1
      split at h
      · rename_i h2
        have q1 := cmpI_eq0.1 h1; have q2 := cmpI_eq0.1 h2; have q3 := cmpS_eq0.1 h
        cases a; cases b; simp_all
      · contradiction
    · contradiction
  · rintro rfl; simp [cmpI_eq0.2, cmpS_eq0.2]
theorem cmpL_eq0 : ∀ {a b : List Val}, cmpL a b = 0 ↔ a = b
  | [], [] => by simp [cmpL]
  | [], _ :: _ => by simp [cmpL]
  | _ :: _, [] => by simp [cmpL]
  | x :: a, y :: b => by
    simp only [cmpL, List.cons.injEq]
    by_cases h : cmpVal x y = 0
    · rw [if_pos h, cmpL_eq0]; simp [cmpVal_eq0.1 h]
    · rw [if_neg h]
      constructor
      · intro h'; exact absurd h' h
      · rintro ⟨rfl, _⟩; exact absurd (cmpVal_eq0.2 rfl) h
theorem cmpFull_eq0 {a b : Rw} : cmpFull a b = 0 ↔ a = b := by
  unfold cmpFull
  rw [orL_cons, orL_cons, orL_cons, orL_cons, orL2]
  constructor
  · intro h
    obtain ⟨h1, h⟩ := ite0 h
    obtain ⟨h2, h⟩ := ite0 h
    obtain ⟨h3, h⟩ := ite0 h
    obtain ⟨h4, h⟩ := ite0 h
    obtain ⟨h5, h⟩ := ite0 h
    unfold cmpRow at h1
    rw [orL2] at h1
    obtain ⟨h0, h1⟩ := ite0 h1
    have q0 := cmpI_eq0.1 h0; have q1 := cmpID_eq0.1 h1; have q2 := cmpI_eq0.1 h2; have q3 := cmpI_eq0.1 h3; have q4 := cmpS_eq0.1 h4; have q5 := cmpS_eq0.1 h5; have q6 := cmpL_eq0.1 h
    cases a; cases b; simp_all
  · rintro rfl
    simp [pre_cmpRow.refl, cmpI_eq0.2, cmpS_eq0.2, cmpL_eq0.2]
theorem cmpD_eq0 {a b : Dlt} : cmpD a b = 0 ↔ a.tick = b.tick ∧ a.row = b.row := by
  unfold cmpD
  rw [orL2]
  constructor
  · intro h
    split at h
    · rename_i h0; exact ⟨cmpI_eq0.1 h0, cmpFull_eq0.1 h⟩
    · contradiction
  · rintro ⟨h1, h2⟩
    rw [if_pos (cmpI_eq0.2 h1)]; exact cmpFull_eq0.2 h2
end Go.Ar

/- Arrangements: the plain law of consolidation: a list of deltas without equals, sorted, without noughts, is told by its sums. -/
namespace Go.Proofs.Ytopfanlkbepemaa
open Go.VL Go.Ar Go.Proofs.Ytopfanlkbepemaa

abbrev W64 : Int := 18446744073709551616
def inR (n : Int) : Prop := -9223372036854775808 ≤ n ∧ n < 9223372036854775808
theorem wrap_mod (n : Int) : wrap n % W64 = n % W64 := by
  show IntKind.i64.wrap n % 18446744073709551616 = n % 18446744073709551616
  rw [IntKind.wrap_i64]; omega
theorem wrap_in (n : Int) : inR (wrap n) := by
  unfold inR wrap IntKind.wrap
  simp [IntKind.bits, IntKind.signed]
  split <;> omega
theorem inR_eq {a b : Int} (ha : inR a) (hb : inR b) (h : a % W64 = b % W64) : a = b := by
  unfold inR at ha hb
  simp only [W64] at h
  omega

def coef : List Dlt → Int → Rw → Int
  | [], _, _ => 0
  | x :: l, t, r => (if x.tick = t ∧ x.row = r then x.n else 0) + coef l t r
theorem coef_append (l m : List Dlt) (t : Int) (r : Rw) : coef (l ++ m) t r = coef l t r + coef m t r := by
  induction l with
  | nil => simp [coef]
  | cons x l ih => simp only [List.cons_append, coef, ih]; omega
theorem coef_perm {l m : List Dlt} (h : l.Perm m) (t : Int) (r : Rw) : coef l t r = coef m t r := by
  induction h with
  | nil => rfl
  | cons x _ ih => simp only [coef, ih]
  | swap x y l => simp only [coef]; omega
  | trans _ _ h1 h2 => rw [h1, h2]
theorem coef_none {l : List Dlt} {t : Int} {r : Rw} (h : ∀ y ∈ l, ¬ (y.tick = t ∧ y.row = r)) : coef l t r = 0 := by
  induction l with
  | nil => rfl
  | cons x l ih => simp only [coef, if_neg (h x List.mem_cons_self), ih fun y hy => h y (List.mem_cons_of_mem _ hy)]; rfl

theorem ltD_cmp (a b : Dlt) : ltD a b = decide (cmpD a b < 0) := by
  unfold ltD cmpD
  rw [orL2]
  by_cases h1 : a.tick < b.tick
  · have : cmpI a.tick b.tick = -1 := by simp [cmpI, h1]
    simp [h1, this]
  · by_cases h2 : a.tick = b.tick
    · have : cmpI a.tick b.tick = 0 := cmpI_eq0.2 h2
      rw [if_pos this]
      simp [h2]
    · have : cmpI a.tick b.tick = 1 := by simp [cmpI, h1, show b.tick < a.tick by omega]
      simp [h1, h2, this]
theorem ltD_irrefl (a : Dlt) : ltD a a = false := by rw [ltD_cmp, pre_cmpD.refl]; rfl
theorem ltD_trans {a b c : Dlt} (h : ltD a b = true) (h' : ltD b c = true) : ltD a c = true := by
  rw [ltD_cmp, decide_eq_true_eq] at *
  exact pre_cmpD.lt_trans h h'
theorem ltD_asymm {a b : Dlt} (h : ltD a b = true) : ltD b a = false := by
  cases h' : ltD b a
  · rfl
  · have := ltD_trans h h'; rw [ltD_irrefl] at this; cases this
theorem ltD_key {a b : Dlt} (h : ltD a b = true) : ¬ (a.tick = b.tick ∧ a.row = b.row) := fun e => by
  rw [ltD_cmp, cmpD_eq0.2 e] at h; cases h
theorem ltD_eq {a b : Dlt} (h : ltD a b = false) (h' : ltD b a = false) : a.tick = b.tick ∧ a.row = b.row := by
  rw [ltD_cmp, decide_eq_false_iff_not] at h h'
  have := pre_cmpD.anti a b
  exact cmpD_eq0.1 (by omega)
theorem ltD_congr {a b c : Dlt} (h1 : a.tick = b.tick) (h2 : a.row = b.row) : ltD c a = ltD c b := by unfold ltD; rw [h1, h2]
theorem ltD_congr' {a b c : Dlt} (h1 : a.tick = b.tick) (h2 : a.row = b.row) : ltD a c = ltD b c := by unfold ltD; rw [h1, h2]

/-- Sorted, no two alike, no nought. -/
def Canon (l : List Dlt) : Prop := l.Pairwise (fun a b => ltD a b = true) ∧ ∀ x ∈ l, x.n ≠ 0 ∧ inR x.n
theorem Canon.tail {x : Dlt} {l : List Dlt} (h : Canon (x :: l)) : Canon l := ⟨(List.pairwise_cons.1 h.1).2, fun y hy => h.2 y (List.mem_cons_of_mem _ hy)⟩
theorem Canon.head {x : Dlt} {l : List Dlt} (h : Canon (x :: l)) : coef (x :: l) x.tick x.row = x.n := by
  simp only [coef, and_self, if_true]
  rw [coef_none fun y hy e => ltD_key ((List.pairwise_cons.1 h.1).1 y hy) ⟨e.1.symm, e.2.symm⟩]
  omega
theorem Canon.less {x y : Dlt} {m : List Dlt} (h : Canon (y :: m)) (hx : ltD x y = true) : coef (y :: m) x.tick x.row = 0 := by
  refine coef_none fun z hz e => ?_
  have : ltD x z = true := by
    rcases List.mem_cons.1 hz with rfl | hz
    · exact hx
    · exact ltD_trans hx ((List.pairwise_cons.1 h.1).1 z hz)
  exact ltD_key this ⟨e.1.symm, e.2.symm⟩
theorem nz_mod {n : Int} (h : n ≠ 0) (hr : inR n) : n % W64 ≠ 0 := by unfold inR at hr; simp only [W64]; omega

theorem canon_eq : ∀ {l m : List Dlt}, Canon l → Canon m → (∀ t r, coef l t r % W64 = coef m t r % W64) → l = m
  | [], [], _, _, _ => rfl
  | [], y :: m, _, hm, h => by
    have := h y.tick y.row
    rw [hm.head] at this
    exact absurd (this.symm.trans (by simp [coef])) (nz_mod (hm.2 y List.mem_cons_self).1 (hm.2 y List.mem_cons_self).2)
  | x :: l, [], hl, _, h => by
    have := h x.tick x.row
    rw [hl.head] at this
    exact absurd (this.trans (by simp [coef])) (nz_mod (hl.2 x List.mem_cons_self).1 (hl.2 x List.mem_cons_self).2)
  | x :: l, y :: m, hl, hm, h => by
    have hx := hl.2 x List.mem_cons_self
    have hy := hm.2 y List.mem_cons_self
    cases h1 : ltD x y
    · cases h2 : ltD y x
      · obtain ⟨e1, e2⟩ := ltD_eq h1 h2
        have hn : x.n = y.n := by
          have := h x.tick x.row
          rw [hl.head, e1, e2, hm.head] at this
          exact inR_eq hx.2 hy.2 this
        have hxy : x = y := by cases x; cases y; simp_all
        subst hxy
        rw [canon_eq hl.tail hm.tail fun t r => ?_]
        have := h t r
        simp only [coef] at this
        simp only [W64] at this ⊢
        omega
      · have := h y.tick y.row
        rw [hm.head, hl.less h2] at this
        exact absurd this.symm (nz_mod hy.1 hy.2)
    · have := h x.tick x.row
      rw [hl.head, hm.less h1] at this
      exact absurd this (nz_mod hx.1 hx.2)

theorem putM_coef (x : Dlt) (t : Int) (r : Rw) : ∀ l : List Dlt, coef (putM l x) t r % W64 = ((if x.tick = t ∧ x.row = r then x.n else 0) + coef l t r) % W64
  | [] => by
    unfold putM
    by_cases h : x.n = 0
    · simp [h, coef]
    · simp [h, coef]
  | y :: l => by
    have ih := putM_coef x t r l
    unfold putM
    by_cases h1 : ltD y x = true
    · rw [if_pos h1]
      simp only [coef]
      simp only [W64] at ih ⊢
      omega
    · rw [if_neg h1]
      by_cases h2 : ltD x y = true
      · rw [if_pos h2]
        by_cases h : x.n = 0
        · simp [h]
        · simp [h, coef]
      · rw [if_neg h2]
        obtain ⟨e1, e2⟩ := ltD_eq (by simpa using h2) (by simpa using h1)
        have hw := wrap_mod (x.n + y.n)
        by_cases h : wrap (x.n + y.n) = 0
        · rw [if_pos h]
          rw [h] at hw
          simp only [coef, e1, e2]
          simp only [W64] at hw ⊢
          split <;> omega
        · rw [if_neg h]
          simp only [coef, e1, e2]
          simp only [W64] at hw ⊢
          split <;> omega
theorem putM_keys {x y : Dlt} : ∀ {l : List Dlt}, y ∈ putM l x → (y.tick = x.tick ∧ y.row = x.row) ∨ ∃ z ∈ l, y.tick = z.tick ∧ y.row = z.row
  | [], h => by
    unfold putM at h
    split at h
    · cases h
    · rw [List.mem_singleton] at h; subst h; exact .inl ⟨rfl, rfl⟩
  | z :: l, h => by
    unfold putM at h
    repeat' split at h
    · rcases List.mem_cons.1 h with rfl | h
      · exact .inr ⟨_, List.mem_cons_self, rfl, rfl⟩
      · exact (putM_keys h).imp id fun ⟨w, hw, e⟩ => ⟨w, List.mem_cons_of_mem _ hw, e⟩
    · exact .inr ⟨y, h, rfl, rfl⟩
    · rcases List.mem_cons.1 h with rfl | h
      · exact .inl ⟨rfl, rfl⟩
      · exact .inr ⟨y, h, rfl, rfl⟩
    · exact .inr ⟨y, List.mem_cons_of_mem _ h, rfl, rfl⟩
    · rcases List.mem_cons.1 h with rfl | h
      · exact .inl ⟨rfl, rfl⟩
      · exact .inr ⟨y, List.mem_cons_of_mem _ h, rfl, rfl⟩
theorem putM_canon {x : Dlt} (hx : inR x.n) : ∀ {l : List Dlt}, Canon l → Canon (putM l x)
  | [], _ => by
    unfold putM
    split
    · exact ⟨List.Pairwise.nil, by simp⟩
    · rename_i h; exact ⟨by simp, fun y hy => by rw [List.mem_singleton] at hy; subst hy; exact ⟨h, hx⟩⟩
  | y :: l, h => by
    have ih := putM_canon hx h.tail
    have hc := List.pairwise_cons.1 h.1
    unfold putM
    split
    · rename_i h1
      refine ⟨List.pairwise_cons.2 ⟨fun z hz => ?_, ih.1⟩, fun z hz => ?_⟩
      · rcases putM_keys hz with ⟨e1, e2⟩ | ⟨w, hw, e1, e2⟩
        · rw [ltD_congr e1 e2]; exact h1
        · rw [ltD_congr e1 e2]; exact hc.1 w hw
      · rcases List.mem_cons.1 hz with rfl | hz
        · exact h.2 _ List.mem_cons_self
        · exact ih.2 z hz
    · rename_i h1
      split
      · rename_i h2
        split
        · exact h
        · rename_i h0
          refine ⟨List.pairwise_cons.2 ⟨fun z hz => ?_, h.1⟩, fun z hz => ?_⟩
          · rcases List.mem_cons.1 hz with rfl | hz
            · exact h2
            · exact ltD_trans h2 (hc.1 z hz)
          · rcases List.mem_cons.1 hz with rfl | hz
            · exact ⟨h0, hx⟩
            · exact h.2 z hz
      · rename_i h2
        obtain ⟨e1, e2⟩ := ltD_eq (by simpa using h2) (by simpa using h1)
        split
        · exact h.tail
        · rename_i h0
          refine ⟨List.pairwise_cons.2 ⟨fun z hz => ?_, hc.2⟩, fun z hz => ?_⟩
          · exact (ltD_congr' (b := y) (c := z) e1 e2).trans (hc.1 z hz)
          · rcases List.mem_cons.1 hz with rfl | hz
            · exact ⟨h0, wrap_in _⟩
            · exact h.2 z (List.mem_cons_of_mem _ hz)
def okN (d : List Dlt) : Prop := ∀ x ∈ d, inR x.n
theorem foldPut_ok (d : List Dlt) (hd : okN d) : ∀ l, Canon l → Canon (d.foldl putM l) ∧ ∀ t r, coef (d.foldl putM l) t r % W64 = (coef l t r + coef d t r) % W64 := by
  induction d with
  | nil => intro l hl; exact ⟨hl, fun t r => by simp [coef]⟩
  | cons x d ih =>
    intro l hl
    obtain ⟨h1, h2⟩ := ih (fun y hy => hd y (List.mem_cons_of_mem _ hy)) (putM l x) (putM_canon (hd x List.mem_cons_self) hl)
    refine ⟨h1, fun t r => ?_⟩
    have hp := putM_coef x t r l
    have := h2 t r
    simp only [List.foldl_cons, coef]
    simp only [W64] at hp this ⊢
    omega
theorem consM_canon {d : List Dlt} (hd : okN d) : Canon (consM d) := (foldPut_ok d hd [] ⟨List.Pairwise.nil, by simp⟩).1
theorem consM_coef {d : List Dlt} (hd : okN d) (t : Int) (r : Rw) : coef (consM d) t r % W64 = coef d t r % W64 := by
  have := (foldPut_ok d hd [] ⟨List.Pairwise.nil, by simp⟩).2 t r
  simpa [coef, consM] using this
/-- The one law: what is canonical and has the sums is the consolidation. -/
theorem eq_consM {d l : List Dlt} (hd : okN d) (hl : Canon l) (h : ∀ t r, coef l t r % W64 = coef d t r % W64) : l = consM d :=
  canon_eq hl (consM_canon hd) fun t r => (h t r).trans (consM_coef hd t r).symm
theorem consM_congr {d e : List Dlt} (hd : okN d) (he : okN e) (h : ∀ t r, coef d t r % W64 = coef e t r % W64) : consM d = consM e :=
  eq_consM he (consM_canon hd) fun t r => (consM_coef hd t r).trans (h t r)
theorem consM_self {d : List Dlt} (hd : Canon d) : consM d = d := (eq_consM (fun x hx => (hd.2 x hx).2) hd fun _ _ => rfl).symm
theorem canon_nil {d : List Dlt} (h : Canon d) : okN d := fun x hx => (h.2 x hx).2
end Go.Proofs.Ytopfanlkbepemaa

