/- Merged out of my texts AD LA LB LS LC LD O7 O8 O9 LE LF LG LM LH. -/
import Derived.Test.YtphkmlogjgeipaaGreatDoorVR
import Derived.Test.YtphkmlogjgeipaaGreatDoorVS
import Derived.Test.YtphkmlogjgeipaaGreatDoorKTy
import Derived.Test.YtphkmlogjgeipaaGreatDoorVT
import Derived.Shelf.Strings.Search3
import Derived.KernelRfl
import Derived.Test.YtphkmlogjgeipaaGreatDoorProg
import Derived.Lib.IndexMore
import Derived.Test.YtphkmlogjgeipaaGreatDoorVH
import Derived.Test.YtphkmlogjgeipaaGreatDoorVK
set_option linter.unusedSimpArgs false
set_option linter.unusedVariables false
/- Arrangements: the data, and how they stand as abstract values. -/
namespace Go.Ar
open Go.VL

abbrev Str := ByteArray
abbrev vint (n : Int) : V := .lit (.int .i64 n)
abbrev vbool (b : Bool) : V := .lit (.bool b)
abbrev vstr (s : Str) : V := .lit (.string s)
abbrev vints (xs : List Int) : V := .list none 1 (xs.map fun x => [vint x])
abbrev vstrs (xs : List Str) : V := .list none 1 (xs.map fun x => [vstr x])
abbrev ptr (b : Nat) : V := .lit (.pointer (some ⟨b, 0, none⟩))
abbrev nilS : V := .lit (.slice none 0 0)

structure FID where
  src : Str
  seq : Int
  deriving DecidableEq
structure Val where
  kind : Int
  n : Int
  s : Str
  deriving DecidableEq
structure Rw where
  id : FID
  table : Str
  key : Str
  event : Int
  fields : List Val
  no : Int
  tick : Int
  deriving DecidableEq
structure Dlt where
  row : Rw
  tick : Int
  n : Int
  deriving DecidableEq
structure Grp where
  key : Str
  ds : List Dlt
  deriving DecidableEq
structure Arr where
  since : Int
  groups : List Grp
  deriving DecidableEq

abbrev cFID (i : FID) : List V := [vstr i.src, vint i.seq]
abbrev cVal (v : Val) : List V := [vint v.kind, vint v.n, vstr v.s]
abbrev vVals (l : List Val) : V := .list none 3 (l.map cVal)
abbrev cRow (r : Rw) : List V := [vstr r.id.src, vint r.id.seq, vstr r.table, vstr r.key, vint r.event, vVals r.fields, vint r.no, vint r.tick]
abbrev cDlt (d : Dlt) : List V := [vstr d.row.id.src, vint d.row.id.seq, vstr d.row.table, vstr d.row.key, vint d.row.event, vVals d.row.fields, vint d.row.no, vint d.row.tick, vint d.tick, vint d.n]
abbrev vDlts (l : List Dlt) : V := .list none 10 (l.map cDlt)
abbrev vRows (l : List Rw) : V := .list none 8 (l.map cRow)
abbrev vFIDs (l : List FID) : V := .list none 2 (l.map cFID)
abbrev cGrp (g : Grp) : List V := [vstr g.key, vDlts g.ds]
abbrev vGrps (l : List Grp) : V := .list none 2 (l.map cGrp)
abbrev cArr (a : Arr) : List V := [vint a.since, vGrps a.groups]
abbrev vArr (a : Arr) : V := .agg (cArr a)

/-! ### Orders -/
def less (a b : Str) : Bool := Op.bytesLess a.data.toList b.data.toList
def cmpI (a b : Int) : Int := if a < b then -1 else if b < a then 1 else 0
def cmpS (a b : Str) : Int := if less a b = true then -1 else if (less a b || decide (a = b)) = true then 0 else 1
def orL : List Int → Int
  | [] => 0
  | x :: r => if x = 0 then orL r else x
def cmpID (a b : FID) : Int := if a = b then 0 else orL [cmpS a.src b.src, cmpI a.seq b.seq]
def cmpRow (a b : Rw) : Int := orL [cmpI a.event b.event, cmpID a.id b.id]
def cmpVal (a b : Val) : Int := orL [cmpI a.kind b.kind, cmpI a.n b.n, cmpS a.s b.s]
def cmpL : List Val → List Val → Int
  | [], [] => 0
  | [], _ :: _ => -1
  | _ :: _, [] => 1
  | a :: l, b :: m => if cmpVal a b = 0 then cmpL l m else cmpVal a b
def cmpFull (a b : Rw) : Int := orL [cmpRow a b, cmpI a.no b.no, cmpI a.tick b.tick, cmpS a.table b.table, cmpS a.key b.key, cmpL a.fields b.fields]
def cmpD (a b : Dlt) : Int := orL [cmpI a.tick b.tick, cmpFull a.row b.row]

theorem bytesLess_irrefl : ∀ l : List UInt8, Op.bytesLess l l = false
  | [] => rfl
  | x :: l => by simp [Op.bytesLess, bytesLess_irrefl l]
theorem less_irrefl (a : Str) : less a a = false := bytesLess_irrefl _
theorem less_ne {a b : Str} (h : less a b = true) : a ≠ b := fun e => by subst e; rw [less_irrefl] at h; cases h
theorem cmpS_lt {a b : Str} (h : less a b = true) : cmpS a b = -1 := by simp [cmpS, h]
theorem cmpS_refl (a : Str) : cmpS a a = 0 := by simp [cmpS, less_irrefl]
theorem cmpS_gt {a b : Str} (h : less a b = false) (hn : ¬ a = b) : cmpS a b = 1 := by simp [cmpS, h, hn]
theorem cmpS_eq0 {a b : Str} : cmpS a b = 0 ↔ a = b := by
  constructor
  · intro h
    cases hl : less a b
    · by_cases he : a = b
      · exact he
      · rw [cmpS_gt hl he] at h; cases h
    · rw [cmpS_lt hl] at h; cases h
  · rintro rfl; exact cmpS_refl a
theorem cmpI_eq0 {a b : Int} : cmpI a b = 0 ↔ a = b := by
  unfold cmpI
  constructor
  · intro h
    split at h
    · cases h
    · split at h
      · cases h
      · omega
  · rintro rfl; simp
theorem cmpID_eq0 {a b : FID} : cmpID a b = 0 ↔ a = b := by
  unfold cmpID
  constructor
  · intro h
    split at h
    · assumption
    · simp only [orL] at h
      cases a; cases b
      split at h
      · rename_i h1
        split at h
        · rename_i h2
          have q1 := cmpS_eq0.1 h1
          have q2 := cmpI_eq0.1 h2
          simp only [] at q1 q2
          rw [q1, q2]
        · contradiction
      · contradiction
  · rintro rfl; simp
theorem cmpID_src {a b : FID} (h : ¬ a.src = b.src) : cmpID a b = cmpS a.src b.src := by
  have : ¬ a = b := fun e => h (by rw [e])
  simp [cmpID, this, orL, cmpS_eq0, h]
theorem cmpID_seq {a b : FID} (h : a.src = b.src) : cmpID a b = cmpI a.seq b.seq := by
  by_cases e : a = b
  · subst e; simp [cmpID, cmpI]
  · have : ¬ a.seq = b.seq := fun e' => e (by cases a; cases b; simp_all)
    simp [cmpID, e, orL, h, cmpS_refl, cmpI_eq0, this]
/-! ### Small words for the walks -/
theorem wrap_id {n : Int} (h : -9223372036854775808 ≤ n) (h' : n < 9223372036854775808) : IntKind.i64.wrap n = n := IntWalk.i64_in n ⟨h, by omega⟩
theorem wrap_succ {i N : Nat} (h : i < N) (hN : N ≤ 9223372036854775807) : IntKind.i64.wrap ((i : Int) + 1) = ((i + 1 : Nat) : Int) := by
  rw [wrap_id (by omega) (by omega)]; rfl
theorem ret_done {v x : V} {bs : List (Nat × B)} {rs : List VL.Row} (h : v = x) : ∃ w bs' rs', Le v w ∧ bs'.Sublist bs ∧ rs'.Sublist rs ∧ w = x ∧ bs' = [] ∧ rs' = [] :=
  ⟨v, [], [], Le.refl _, List.nil_sublist _, List.nil_sublist _, h, rfl, rfl⟩
theorem ret_le {v x : V} {bs : List (Nat × B)} {rs : List VL.Row} (h : Le v x) : ∃ w bs' rs', Le v w ∧ bs'.Sublist bs ∧ rs'.Sublist rs ∧ w = x ∧ bs' = [] ∧ rs' = [] :=
  ⟨x, [], [], h, List.nil_sublist _, List.nil_sublist _, rfl, rfl, rfl⟩
theorem le_list {own : Option Value} {k : Nat} {es es' : List (List V)} (h : es = es') : Le (.list own k es) (.list none k es') := h ▸ Le.list _ _ _
theorem getD_map {α : Type} (f : α → List V) (l : List α) (i : Nat) (h : i < l.length) : (l.map f).getD i [] = f l[i] := by
  simp [List.getD, h]
theorem get_map {α : Type} (f : α → List V) (l : List α) (i : Nat) (h : i < l.length) : (l.map f)[i]? = some (f l[i]) := by
  simp [h]
end Go.Ar

/- Lowering: the data (expressions, nodes, graphs), how they stand as abstract values; the model of lowering. -/
namespace Go.Lo
open Go.VL Go.Ar

structure Fac where
  name : Str
  exp : Int
  deriving DecidableEq
/-- An expression but for its operands. -/
structure Hd where
  kind : Int
  op : Str
  name : Str
  table : Str
  val : Val
  unit : List Fac
  param : Int
  wk : Int
  ws : Int
  deriving DecidableEq
inductive E where
  | mk (h : Hd) (args : List E)
def E.hd : E → Hd
  | .mk h _ => h
def E.args : E → List E
  | .mk _ l => l
theorem E.eta (x : E) : E.mk x.hd x.args = x := by cases x; rfl
theorem E.ext' {x y : E} (h : x.hd = y.hd) (h' : x.args = y.args) : x = y := by cases x; cases y; simp_all [E.hd, E.args]
noncomputable instance : DecidableEq E := fun a b => Classical.propDecidable (a = b)

abbrev cFac (f : Fac) : List V := [vstr f.name, vint f.exp]
abbrev vFacs (l : List Fac) : V := .list none 2 (l.map cFac)
/-- An expression's cells; a: those of its operands. -/
abbrev cH (h : Hd) (a : V) : List V := [vint h.kind, vstr h.op, vstr h.name, vstr h.table, vint h.val.kind, vint h.val.n, vstr h.val.s, vFacs h.unit, vint h.param, vint h.wk, vint h.ws, a]
mutual
def cE : E → List V
  | .mk h l => cH h (.list none 12 (cEs l))
def cEs : List E → List (List V)
  | [] => []
  | x :: r => cE x :: cEs r
end
theorem cEs_map : ∀ l : List E, cEs l = l.map cE
  | [] => rfl
  | x :: r => by simp only [cEs, List.map_cons, cEs_map r]
abbrev vEs (l : List E) : V := .list none 12 (l.map cE)
theorem cE_mk (h : Hd) (l : List E) : cE (.mk h l) = cH h (vEs l) := by rw [cE, cEs_map]
theorem cE_eq (x : E) : cE x = cH x.hd (vEs x.args) := by cases x; rw [cE_mk]; rfl
theorem cE_len (x : E) : (cE x).length = 12 := by rw [cE_eq]; rfl
abbrev vE (x : E) : V := .agg (cE x)

/-- Induction over expressions. -/
theorem E.ind {P : E → Prop} (h : ∀ hd l, (∀ x ∈ l, P x) → P (.mk hd l)) (x : E) : P x :=
  E.rec (motive_1 := P) (motive_2 := fun l => ∀ x ∈ l, P x) (fun hd l ih => h hd l ih) (fun _ hx => by cases hx)
    (fun y r hy hr x hx => by
      rcases List.mem_cons.1 hx with rfl | hx
      · exact hy
      · exact hr x hx) x

mutual
def sizeE : E → Nat
  | .mk _ l => 1 + sizeEs l
def sizeEs : List E → Nat
  | [] => 0
  | x :: r => sizeE x + sizeEs r
end
mutual
def depthE : E → Nat
  | .mk _ l => depthEs l + 1
def depthEs : List E → Nat
  | [] => 0
  | x :: r => max (depthE x) (depthEs r)
end
theorem sizeE_mk (h : Hd) (l : List E) : sizeE (.mk h l) = 1 + sizeEs l := by rw [sizeE]
theorem depthE_mk (h : Hd) (l : List E) : depthE (.mk h l) = depthEs l + 1 := by rw [depthE]
theorem sizeEs_mem {x : E} : ∀ {l : List E}, x ∈ l → sizeE x ≤ sizeEs l
  | y :: r, h => by
    rcases List.mem_cons.1 h with rfl | h
    · simp only [sizeEs]; omega
    · have := sizeEs_mem h; simp only [sizeEs]; omega
theorem depthEs_mem {x : E} : ∀ {l : List E}, x ∈ l → depthE x ≤ depthEs l
  | y :: r, h => by
    rcases List.mem_cons.1 h with rfl | h
    · simp only [depthEs]; exact Nat.le_max_left _ _
    · have := depthEs_mem h; simp only [depthEs]; exact Nat.le_trans this (Nat.le_max_right _ _)
theorem sizeE_pos (x : E) : 0 < sizeE x := by cases x; rw [sizeE_mk]; omega

abbrev es0 : Str := ⟨#[]⟩
abbrev val0 : Val := ⟨0, 0, es0⟩
abbrev hd0 (k : Int) : Hd := ⟨k, es0, es0, es0, val0, [], 0, 0, 0⟩
abbrev exp0 : E := .mk (hd0 0) []

structure Nd where
  kind : Int
  table : Str
  expr : E
  op : Str
  param : Int
  wk : Int
  ws : Int
  val : Val
  name : Str
  inn : List Int
noncomputable instance : DecidableEq Nd := fun a b => Classical.propDecidable (a = b)
/-- A node's cells; x: those of its expression, a: its In. -/
abbrev cN (n : Nd) (h : Hd) (x a : V) : List V := [vint n.kind, vstr n.table, vint h.kind, vstr h.op, vstr h.name, vstr h.table, vint h.val.kind, vint h.val.n, vstr h.val.s, vFacs h.unit, vint h.param, vint h.wk, vint h.ws, x, vstr n.op, vint n.param, vint n.wk, vint n.ws, vint n.val.kind, vint n.val.n, vstr n.val.s, vstr n.name, a]
def cNd (n : Nd) : List V := cN n n.expr.hd (vEs n.expr.args) (vints n.inn)
theorem cNd_eq (n : Nd) : cNd n = cN n n.expr.hd (vEs n.expr.args) (vints n.inn) := rfl
theorem cNd_len (n : Nd) : (cNd n).length = 23 := rfl
abbrev vNds (l : List Nd) : V := .list none 23 (l.map cNd)
abbrev vG (l : List Nd) : V := .agg [vNds l]
abbrev nd0 (k : Int) : Nd := ⟨k, es0, exp0, es0, 0, 0, 0, val0, es0, []⟩

end Go.Lo

/- Contracts of lowering, part a: words, names, units, values, types. -/
set_option linter.unusedSimpArgs false
set_option maxRecDepth 100000
namespace Go.Proofs.YtphkmlogjgeipaaGreatDoor
open Go.VL Go.Ar Go.Lo Go.Proofs.YtphkmlogjgeipaaGreatDoor

set_option linter.defProp false in
def tbLB0 := (aI (aI (aI (aI (aI Ty.sz3 Ty.by3) (aI Ty.ag3 Ty.zr3)) (aI (aI Ty.un3 Ty.sz4) (aI Ty.by4 (aI Ty.ag4 Ty.zr4)))) (aI (aI (aI Ty.un4 Ty.sz9) (aI Ty.by9 (aI Ty.ag9 Ty.zr9))) (aI (aI Ty.un9 Ty.sz29) (aI Ty.by29 (aI Ty.ag29 Ty.zr29))))) (aI (aI (aI (aI Ty.un29 Ty.sz49) (aI Ty.by49 (aI Ty.ag49 Ty.zr49))) (aI (aI Ty.fl49_0 Ty.pl49_0) (aI Ty.fl49_1 (aI Ty.pl49_1 Ty.fl49_2)))) (aI (aI (aI Ty.pl49_2 Ty.sz103) (aI Ty.by103 (aI Ty.ag103 Ty.zr103))) (aI (aI Ty.fl103_0 Ty.pl103_0) (aI Ty.fl103_1 (aI Ty.pl103_1 Ty.eq103))))))
theorem isNumber_ok (k : Int) (u : List Fac) (of : Str) : OkP Tryz.prog 72 [.agg [vint k, vFacs u, vstr of]] (vbool (decide (k = 2 ∨ k = 3))) := by
  refine Ok.of_ex Ty.mixed Tryz.func72 rfl (by simp [Tryz.ntmps72]) (by kernel_rfl) fun F w0 I0 => ?_
  simp only [↓rA, rB]
  refine fun b1 h1 => ?_; replace h1 := newb h1; try simp only [Nb] at h1
  by_cases e1 : k = 2
  · simp only [↓rA, rB, Int.reduceEq, Nat.reduceAdd, Nat.reduceEqDiff, tbLB0, Tryz.results72, e1]
    exact ret_done (by simp [])
  · by_cases e2 : k = 3
    · simp only [↓rA, rB, Int.reduceEq, Nat.reduceAdd, Nat.reduceEqDiff, tbLB0, Tryz.results72, e2]
      exact ret_done (by simp [])
    · simp only [↓rA, rB, Nat.reduceAdd, Nat.reduceEqDiff, tbLB0, Tryz.results72, e1, e2]
      exact ret_done (by simp [])
/-- n is beyond a limit. -/
def outB (n m : Int) : Bool := decide (m < n) || decide (n < -m)
set_option linter.defProp false in
def tbLB1 := (aI (aI (aI Ty.sz3 Ty.by3) (aI Ty.ag3 (aI Ty.zr3 Ty.un3))) (aI (aI Ty.sz4 Ty.by4) (aI Ty.ag4 (aI Ty.zr4 Ty.un4))))
theorem outside_ok (n m : Int) (hm : 0 ≤ m ∧ m ≤ 1000) : OkP Tryz.prog 86 [vint n, vint m] (vbool (outB n m)) := by
  refine Ok.of_ex Ty.mixed Tryz.func86 rfl (by simp [Tryz.ntmps86]) (by kernel_rfl) fun F w0 I0 => ?_
  have hw := wrap_id (n := -m) (by omega) (by omega)
  by_cases e1 : m < n
  · simp only [↓rA, rB, Nat.reduceEqDiff, reduceCtorEq, Tryz.results86, e1]
    exact ret_done (by simp [outB, e1])
  · by_cases e2 : n < -m
    · simp only [↓rA, rB, Nat.reduceEqDiff, reduceCtorEq, Tryz.results86, e1]
      exact ret_done (by simp [outB, e2, hw])
    · simp only [↓rA, rB, Nat.reduceEqDiff, reduceCtorEq, Tryz.results86, e1]
      exact ret_done (by simp [outB, e1, e2, hw])
/-- A byte of a word that is no first one. -/
def wordC (c : UInt8) : Bool := !((decide ((c.toNat : Int) < 97) || decide ((122 : Int) < c.toNat)) && (decide ((c.toNat : Int) < 48) || decide ((57 : Int) < c.toNat)) && !decide ((c.toNat : Int) = 95))
def wordB (s : Str) : Bool := if s.size = 0 then false else if 24 < s.size then false else if ((s.data.toList.getD 0 0).toNat : Int) < 97 then false else if (122 : Int) < ((s.data.toList.getD 0 0).toNat : Int) then false else s.data.toList.all wordC
theorem all_take {α : Type} {p : α → Bool} {l : List α} {i : Nat} (h : i < l.length) : (l.take (i + 1)).all p = ((l.take i).all p && p l[i]) := by
  rw [List.take_succ_eq_append_getElem h, List.all_append]; simp
theorem all_fail {α : Type} {p : α → Bool} {l : List α} {i : Nat} (h : i < l.length) (hp : p l[i] = false) : l.all p = false := by
  rw [List.all_eq_false]
  exact ⟨l[i], List.getElem_mem h, by rw [hp]; decide⟩
theorem getD_str (s : Str) (i : Nat) (h : i < s.size) : s.data.toList.getD i 0 = s.data.toList[i]'(by simpa using h) := by
  have h' : i < s.data.toList.length := by simpa using h
  rw [List.getD_eq_getElem?_getD, List.getElem?_eq_getElem h', Option.getD_some]
set_option linter.defProp false in
def tbLB2 := (aI (aI (aI (aI Ty.sz3 Ty.by3) (aI Ty.ag3 (aI Ty.zr3 Ty.un3))) (aI (aI Ty.sz4 Ty.by4) (aI Ty.ag4 (aI Ty.zr4 Ty.un4)))) (aI (aI (aI Ty.sz5 Ty.by5) (aI Ty.ag5 (aI Ty.zr5 Ty.un5))) (aI (aI Ty.sz9 Ty.by9) (aI Ty.ag9 (aI Ty.zr9 Ty.un9)))))
theorem word_ok (s : Str) : OkP Tryz.prog 85 [vstr s] (vbool (wordB s)) := by
  refine Ok.of_ex Ty.mixed Tryz.func85 rfl (by simp [Tryz.ntmps85]) (by kernel_rfl) fun F w0 I0 => ?_
  by_cases e0 : s.size = 0
  · have e0' : (s.size : Int) = 0 := by omega
    simp only [↓rA, rB, Nat.reduceEqDiff, reduceCtorEq, tbLB2, Tryz.results85, e0']
    exact ret_done (by rw [wordB, if_pos e0])
  have e0' : ¬ (s.size : Int) = 0 := by omega
  have e0p : 0 < s.size := by omega
  have e0i : (0 : Int) < s.size := by omega
  by_cases e1 : 24 < s.size
  · have e1' : (24 : Int) < s.size := by omega
    simp only [↓rA, rB, Nat.reduceEqDiff, reduceCtorEq, tbLB2, Tryz.results85, e0', e1']
    exact ret_done (by rw [wordB, if_neg e0, if_pos e1])
  have e1' : ¬ (24 : Int) < s.size := by omega
  by_cases e2 : ((s.data.toList.getD 0 0).toNat : Int) < 97
  · simp only [↓rA, rB, Int.reduceToNat, Nat.reduceEqDiff, reduceCtorEq, tbLB2, Tryz.results85, e0', e1', e0i, e2]
    exact ret_done (by rw [wordB, if_neg e0, if_neg e1, if_pos e2])
  by_cases e3 : (122 : Int) < (s.data.toList.getD 0 0).toNat
  · simp only [↓rA, rB, Int.reduceToNat, Nat.reduceEqDiff, reduceCtorEq, tbLB2, Tryz.results85, e0', e1', e0i, e2, e3]
    exact ret_done (by rw [wordB, if_neg e0, if_neg e1, if_neg e2, if_pos e3])
  simp only [↓rA, rB, Int.reduceToNat, Nat.reduceEqDiff, reduceCtorEq, tbLB2, Tryz.results85, e0', e1', e0i, e2, e3]
  have hw : wordB s = s.data.toList.all wordC := by rw [wordB, if_neg e0, if_neg e1, if_neg e2, if_neg e3]
  refine EX_for Ty.mixed (by kernel_rfl) s.size (fun i S => (s.data.toList.take i).all wordC = true ∧ S.boxes = [] ∧ S.rows = [] ∧ S.σ 0 = vstr s ∧ S.σ 24 = vint s.size ∧ S.σ 25 = vint i) ⟨0, ?_⟩ (fun i S hi ⟨hf, gb, gr, g0, g24, g25⟩ => ?_) (fun S ⟨hf, gb, gr, g0, g24, g25⟩ => ?_)
  · simp only [rB, Nat.reduceEqDiff, reduceCtorEq]
  · have hl : i < s.data.toList.length := by simpa using hi
    have ht := all_take (p := wordC) hl
    have hb := all_fail (p := wordC) hl
    rw [← getD_str s i hi] at ht hb
    generalize hcd : s.data.toList.getD i 0 = c at ht hb
    have hwi := wrap_succ (i := i) (N := s.size) hi (by omega)
    by_cases p1 : (c.toNat : Int) < 97 <;> by_cases p2 : (122 : Int) < c.toNat <;> by_cases p3 : (c.toNat : Int) < 48 <;> by_cases p4 : (57 : Int) < c.toNat <;> by_cases p5 : (c.toNat : Int) = 95 <;>
    first
    | (have hc : wordC c = true := by simp [wordC, p1, p2, p3, p4, p5]
       simp only [↓rA, rB, Int.reduceLT, Nat.reduceEqDiff, reduceCtorEq, tbLB2, gb, gr, g0, g24, g25, Int.ofNat_lt, hi, hcd, p1, p2, p3, p4, p5, hwi]
       exact ⟨0, by rw [ht, hf, hc]; rfl⟩)
    | (have hc : wordC c = false := by simp [wordC, p1, p2, p3, p4, p5]
       simp only [↓rA, rB, Nat.reduceEqDiff, reduceCtorEq, tbLB2, gb, gr, g0, g24, g25, Int.ofNat_lt, hi, hcd, p1, p2, p3, p4, p5]
       exact ret_done (by rw [hw, hb hc]))
  · simp only [↓rA, rB, gb, gr, g24, g25, Int.ofNat_lt, Nat.lt_irrefl]
    rw [List.take_of_length_le (by simp)] at hf
    exact ret_done (by rw [hw, hf])
end Go.Proofs.YtphkmlogjgeipaaGreatDoor

/- Lays.n144, laid here (printed by lay1.py). -/
namespace Go.Proofs
open Go.Shelf
def Tryz.lays144_ren : Go.Shelf.Ren := ⟨fun | 144 => 88 | 143 => 106 | 219 => 121 | 217 => 126 | 225 => 127 | 224 => 128 | 267 => 129 | 266 => 130 | 314 => 131 | n => n, fun | 9 => 9 | 4 => 4 | 3 => 3 | 5 => 5 | 46 => 122 | 146 => 158 | 51 => 137 | n => n, fun | 1 => 3 | n => n⟩
theorem Tryz.lays144 : Go.Proofs.Lays.n144 Tryz.prog Tryz.lays144_ren := {
  mixed := by kernel_rfl
  f143 := Tryz.func106.trans (congrArg some (by kernel_rfl))
  f144 := Tryz.func88.trans (congrArg some (by kernel_rfl))
  f217 := Tryz.func126.trans (congrArg some (by kernel_rfl))
  f219 := Tryz.func121.trans (congrArg some (by kernel_rfl))
  f224 := Tryz.func128.trans (congrArg some (by kernel_rfl))
  f225 := Tryz.func127.trans (congrArg some (by kernel_rfl))
  f266 := Tryz.func130.trans (congrArg some (by kernel_rfl))
  f267 := Tryz.func129.trans (congrArg some (by kernel_rfl))
  f314 := Tryz.func131.trans (congrArg some (by kernel_rfl))
  t3 := Tryz.underlying3
  a3 := Tryz.isAgg3
  z3 := Tryz.sizeOf3
  v3 := Tryz.zeroValue3
  t4 := Tryz.underlying4
  a4 := Tryz.isAgg4
  z4 := Tryz.sizeOf4
  v4 := Tryz.zeroValue4
  t5 := Tryz.underlying5
  a5 := Tryz.isAgg5
  z5 := Tryz.sizeOf5
  v5 := Tryz.zeroValue5
  t9 := Tryz.underlying9
  a9 := Tryz.isAgg9
  z9 := Tryz.sizeOf9
  v9 := Tryz.zeroValue9
  t46 := Tryz.underlying122
  a46 := Tryz.isAgg122
  z46 := Tryz.sizeOf122
  v46 := Tryz.zeroValue122
  t51 := Tryz.underlying137
  a51 := Tryz.isAgg137
  z51 := Tryz.sizeOf137
  v51 := Tryz.zeroValue137
  t146 := Tryz.underlying158
  a146 := Tryz.isAgg158
  z146 := Tryz.sizeOf158
  v146 := Tryz.zeroValue158
  g1 := by kernel_rfl }
end Go.Proofs

/- Contracts of lowering, part b: keywords, names. -/
set_option linter.unusedSimpArgs false
set_option maxRecDepth 100000
namespace Go.Proofs.YtphkmlogjgeipaaGreatDoor
open Go.VL Go.Ar Go.Lo Go.Proofs.YtphkmlogjgeipaaGreatDoor Go.Shelf

theorem contains_ok (s sub : Str) (hs : s.size < 4294967281) : OkP Tryz.prog 88 [vstr s, vstr sub] (vbool (Lib.contains s.data.toList sub.data.toList)) := by
  intro w I xs hr hH
  have : xs = [.string s, .string sub] := by
    match xs, hr with
    | [x, y], hr => simp only [V.reps, V.rep, and_true] at hr; rw [hr.1, hr.2]
    | [], hr => simp [V.reps] at hr
    | [_], hr => simp [V.reps] at hr
    | _ :: _ :: _ :: _, hr => simp [V.reps] at hr
  subst this
  obtain ⟨m, hm, _⟩ := hH.glob.2 3 (by simp [gints])
  refine (Any.strings_Contains Tryz.lays144 s sub m w hs hm).mono ?_
  rintro e w' ⟨rfl, rfl⟩
  exact ⟨_, _, [], [], I, rfl, by simp only [V.rep], Keeps.refl _ _ _, hH, fun b hb => by simp [blks] at hb, rfl, rfl, rfl⟩
def wordsL : List UInt8 := " table feature of keep bool text key int dec if then else default or and not true false null count sum mean min max first last distinct quantile decay all sliding tumbling session where ".toUTF8.data.toList
def keyB (s : Str) : Bool := if s = es0 then false else if Lib.contains s.data.toList [32] = true then false else Lib.contains wordsL (32 :: (s.data.toList ++ [32]))
theorem size_pad (s : Str) : ((⟨#[32]⟩ : Str) ++ s).size = 1 + s.size := by rw [ByteArray.size_append]; rfl
set_option linter.defProp false in
def tbLC0 := (aI (aI (aI Ty.sz4 Ty.by4) (aI Ty.ag4 (aI Ty.zr4 Ty.un4))) (aI (aI Ty.sz9 (aI Ty.by9 Ty.ag9)) (aI Ty.zr9 (aI Ty.un9 Ty.cb88))))
theorem keyword_ok (s : Str) (hs : s.size ≤ 24) : OkP Tryz.prog 76 [vstr s] (vbool (keyB s)) := by
  refine Ok.of_ex Ty.mixed Tryz.func76 rfl (by simp [Tryz.ntmps76]) (by kernel_rfl) fun F w0 I0 => ?_
  by_cases e0 : s = es0
  · subst e0
    simp only [↓rA, rB, Nat.reduceEqDiff, reduceCtorEq, Tryz.results76]
    exact ret_done (by rw [keyB, if_pos rfl])
  have hs1 : ((⟨#[32]⟩ : Str)).size + s.size ≤ 9223372036854775807 := by rw [show ((⟨#[32]⟩ : Str)).size = 1 from rfl]; omega
  have hs2 : ((⟨#[32]⟩ : Str) ++ s).size + ((⟨#[32]⟩ : Str)).size ≤ 9223372036854775807 := by rw [size_pad, show ((⟨#[32]⟩ : Str)).size = 1 from rfl]; omega
  simp only [↓rA, rB, Nat.reduceEqDiff, reduceCtorEq, tbLC0, e0]
  refine OkF_of _ (contains_ok s ⟨#[32]⟩ (by omega)) ?_
  cases h1 : Lib.contains s.data.toList (⟨#[32]⟩ : Str).data.toList
  · simp only [↓rA, rB, Nat.reduceEqDiff, reduceCtorEq, tbLC0, hs1, hs2]
    refine OkF_of _ (contains_ok _ _ (by decide)) ?_
    simp only [↓rA, rB, Nat.reduceEqDiff, Tryz.results76]
    refine ret_done ?_
    rw [keyB, if_neg e0, if_neg (by rw [show (⟨#[32]⟩ : Str).data.toList = [32] from rfl] at h1; rw [h1]; decide)]
    congr 2
  · simp only [↓rA, rB, Nat.reduceEqDiff, Tryz.results76]
    refine ret_done ?_
    rw [keyB, if_neg e0, if_pos (by rw [show (⟨#[32]⟩ : Str).data.toList = [32] from rfl] at h1; exact h1)]
/-- A byte of a name at a place. -/
def nameC (i : Nat) (c : UInt8) : Bool := (decide ((97 : Int) ≤ c.toNat) && decide ((c.toNat : Int) ≤ 122)) || (decide (0 < i) && ((decide ((48 : Int) ≤ c.toNat) && decide ((c.toNat : Int) ≤ 57)) || decide ((c.toNat : Int) = 95)))
def nameL : Nat → List UInt8 → Bool
  | _, [] => true
  | i, c :: r => nameC i c && nameL (i + 1) r
theorem nameL_append : ∀ (i : Nat) (l m : List UInt8), nameL i (l ++ m) = (nameL i l && nameL (i + l.length) m)
  | i, [], m => by simp [nameL]
  | i, c :: r, m => by simp only [List.cons_append, nameL, nameL_append (i + 1) r m, List.length_cons, Bool.and_assoc, show i + 1 + r.length = i + (r.length + 1) by omega]
theorem nameL_take {l : List UInt8} {i : Nat} (h : i < l.length) : nameL 0 (l.take (i + 1)) = (nameL 0 (l.take i) && nameC i l[i]) := by
  rw [List.take_succ_eq_append_getElem h, nameL_append, List.length_take, Nat.min_eq_left (by omega), Nat.zero_add]; simp [nameL]
theorem nameL_fail {l : List UInt8} {i : Nat} (h : i < l.length) (hp : nameC i l[i] = false) : nameL 0 l = false := by
  rw [← List.take_append_drop (i + 1) l, nameL_append, nameL_take h, hp]; simp
def nameB (s : Str) : Bool := if s = es0 then false else if 24 < s.size then false else if keyB s = true then false else nameL 0 s.data.toList
set_option linter.defProp false in
def tbLC1 := (aI (aI (aI (aI Ty.sz3 Ty.by3) (aI Ty.ag3 (aI Ty.zr3 Ty.un3))) (aI (aI Ty.sz4 Ty.by4) (aI Ty.ag4 (aI Ty.zr4 Ty.un4)))) (aI (aI (aI Ty.sz5 Ty.by5) (aI Ty.ag5 (aI Ty.zr5 Ty.un5))) (aI (aI Ty.sz9 (aI Ty.by9 Ty.ag9)) (aI Ty.zr9 (aI Ty.un9 Ty.cb76)))))
theorem name_ok (s : Str) : OkP Tryz.prog 64 [vstr s] (vbool (nameB s)) := by
  refine Ok.of_ex Ty.mixed Tryz.func64 rfl (by simp [Tryz.ntmps64]) (by kernel_rfl) fun F w0 I0 => ?_
  by_cases e0 : s = es0
  · subst e0
    simp only [↓rA, rB, Nat.reduceEqDiff, reduceCtorEq, Tryz.results64]
    exact ret_done (by rw [nameB, if_pos rfl])
  by_cases e1 : 24 < s.size
  · have e1' : (24 : Int) < s.size := by omega
    simp only [↓rA, rB, Nat.reduceEqDiff, reduceCtorEq, tbLC1, Tryz.results64, e0, e1']
    exact ret_done (by rw [nameB, if_neg e0, if_pos e1])
  have e1' : ¬ (24 : Int) < s.size := by omega
  simp only [↓rA, rB, Nat.reduceEqDiff, reduceCtorEq, tbLC1, e0, e1']
  refine OkF_of _ (keyword_ok s (by omega)) ?_
  cases e2 : keyB s
  · simp only [↓rA, rB, Nat.reduceEqDiff, reduceCtorEq, tbLC1, Tryz.results64]
    have hw : nameB s = nameL 0 s.data.toList := by rw [nameB, if_neg e0, if_neg e1, if_neg (by rw [e2]; decide)]
    refine EX_for Ty.mixed (by kernel_rfl) s.size (fun i S => nameL 0 (s.data.toList.take i) = true ∧ S.boxes = [] ∧ S.rows = [] ∧ S.σ 0 = vstr s ∧ S.σ 17 = vint s.size ∧ S.σ 18 = vint i) ⟨0, ?_⟩ (fun i S hi ⟨hf, gb, gr, g0, g24, g25⟩ => ?_) (fun S ⟨hf, gb, gr, g0, g24, g25⟩ => ?_)
    · simp only [rB, Nat.reduceEqDiff, reduceCtorEq]
      try exact rfl
    · have hl : i < s.data.toList.length := by simpa using hi
      have ht := nameL_take hl
      have hb := nameL_fail hl
      rw [← getD_str s i hi] at ht hb
      generalize hcd : s.data.toList.getD i 0 = c at ht hb
      have hwi := wrap_succ (i := i) (N := s.size) hi (by omega)
      have cs : ((97 : Int) ≤ c.toNat ∧ (c.toNat : Int) ≤ 122) ∨ (¬ (97 : Int) ≤ c.toNat ∧ ¬ (0 : Int) < i) ∨ (((97 : Int) ≤ c.toNat ∧ ¬ (c.toNat : Int) ≤ 122) ∧ ¬ (0 : Int) < i) ∨ (¬ (97 : Int) ≤ c.toNat ∧ (0 : Int) < i ∧ ¬ (48 : Int) ≤ c.toNat ∧ ¬ (c.toNat : Int) = 95) ∨
          (¬ (97 : Int) ≤ c.toNat ∧ (0 : Int) < i ∧ (48 : Int) ≤ c.toNat ∧ (c.toNat : Int) ≤ 57) ∨ (¬ (97 : Int) ≤ c.toNat ∧ (0 : Int) < i ∧ (48 : Int) ≤ c.toNat ∧ ¬ (c.toNat : Int) ≤ 57 ∧ (c.toNat : Int) = 95) ∨ (¬ (97 : Int) ≤ c.toNat ∧ (0 : Int) < i ∧ (48 : Int) ≤ c.toNat ∧ ¬ (c.toNat : Int) ≤ 57 ∧ ¬ (c.toNat : Int) = 95) ∨
          ((97 : Int) ≤ c.toNat ∧ ¬ (c.toNat : Int) ≤ 122 ∧ (0 : Int) < i ∧ (48 : Int) ≤ c.toNat ∧ ¬ (c.toNat : Int) ≤ 57 ∧ ¬ (c.toNat : Int) = 95) := by omega
      have hi0 : (0 < i) = ((0 : Int) < i) := by simp
      rcases cs with cs | cs | cs | cs | cs | cs | cs | cs <;>
      first
      | (have hc : nameC i c = true := by simp only [nameC, hi0, cs]; rfl
         simp only [↓rA, rB, Int.reduceLE, Nat.reduceEqDiff, reduceCtorEq, tbLC1, gb, gr, g0, g24, g25, Int.ofNat_lt, hi, hcd, cs, hwi]
         exact ⟨0, by rw [ht, hf, hc]; rfl⟩)
      | (have hc : nameC i c = false := by simp only [nameC, hi0, cs]; rfl
         simp only [↓rA, rB, Nat.reduceEqDiff, reduceCtorEq, tbLC1, gb, gr, g0, g24, g25, Int.ofNat_lt, hi, hcd, cs]
         exact ret_done (by rw [hw, hb hc]))
    · simp only [↓rA, rB, gb, gr, g24, g25, Int.ofNat_lt, Nat.lt_irrefl]
      rw [List.take_of_length_le (by simp)] at hf
      exact ret_done (by rw [hw, hf])
  · simp only [↓rA, rB, Nat.reduceEqDiff, Tryz.results64]
    exact ret_done (by rw [nameB, if_neg e0, if_neg e1, if_pos e2])
end Go.Proofs.YtphkmlogjgeipaaGreatDoor

/- Contracts of lowering, part c: membership, units, values, types, equality of heads. -/
set_option linter.unusedSimpArgs false
set_option maxRecDepth 100000
-- @call 75
namespace Go.Proofs.YtphkmlogjgeipaaGreatDoor
open Go.VL Go.Ar Go.Lo Go.Proofs.YtphkmlogjgeipaaGreatDoor

/-! ### slices.Contains at strings -/
def memS (l : List Str) (s : Str) : Bool := l.any fun x => decide (s = x)
theorem memS_iff {l : List Str} {s : Str} : memS l s = true ↔ s ∈ l := by
  unfold memS
  rw [List.any_eq_true]
  exact ⟨fun ⟨x, h, e⟩ => by rw [of_decide_eq_true e]; exact h, fun h => ⟨s, h, decide_eq_true rfl⟩⟩
set_option linter.defProp false in
def tbLD0 := (aI (aI (aI (aI Ty.sz3 Ty.by3) (aI Ty.ag3 (aI Ty.zr3 Ty.un3))) (aI (aI Ty.sz4 Ty.by4) (aI Ty.ag4 (aI Ty.zr4 Ty.un4)))) (aI (aI (aI Ty.sz9 Ty.by9) (aI Ty.ag9 (aI Ty.zr9 Ty.un9))) (aI (aI Ty.sz78 (aI Ty.by78 Ty.ag78)) (aI Ty.zr78 (aI Ty.un78 Ty.cb75)))))
theorem indexS_ok (l : List Str) (s : Str) (hl : l.length ≤ 1000000) : Ok Tryz.prog 49 [vstrs l, vstr s] [] fun v bs rs => (∃ k : Int, v = vint k ∧ (0 ≤ k ↔ s ∈ l)) ∧ bs = [] ∧ rs = [] := by
  refine Ok.of_ex Ty.mixed Tryz.func49 rfl (by simp [Tryz.ntmps49]) (by kernel_rfl) fun F w0 I0 => ?_
  simp only [↓rA, rB, reduceCtorEq, tbLD0, Tryz.results49]
  refine EX_for Ty.mixed (by kernel_rfl) l.length (fun i S => (∀ x ∈ l.take i, s ≠ x) ∧ S.boxes = [] ∧ S.rows = [] ∧ S.σ 0 = vstrs l ∧ S.σ 1 = vstr s ∧ S.σ 7 = vint l.length ∧ S.σ 8 = vint i) ⟨0, ?_⟩ (fun i S hi ⟨hf, gb, gr, g0, g1, g7, g8⟩ => ?_) (fun S ⟨hf, gb, gr, g0, g1, g7, g8⟩ => ?_)
  · simp only [rB, Nat.reduceEqDiff, reduceCtorEq, List.length_map]
    exact fun x hx => by cases hx
  · have hwi := wrap_succ (i := i) (N := l.length) hi (by omega)
    by_cases e : s = l[i]
    · simp only [↓rA, rB, Nat.reduceEqDiff, reduceCtorEq, tbLD0, gb, gr, g0, g1, g7, g8, Int.ofNat_lt, hi, List.length_map, getD_map _ _ _ hi, e]
      exact ⟨_, [], [], Le.refl _, List.nil_sublist _, List.nil_sublist _, ⟨i, rfl, by simp⟩, rfl, rfl⟩
    · simp only [↓rA, rB, Nat.reduceEqDiff, reduceCtorEq, tbLD0, gb, gr, g0, g1, g7, g8, Int.ofNat_lt, hi, List.length_map, getD_map _ _ _ hi, e, hwi]
      refine ⟨0, fun x hx => ?_⟩
      rw [List.take_succ_eq_append_getElem hi] at hx
      rcases List.mem_append.1 hx with hx | hx
      · exact hf x hx
      · rw [List.mem_singleton.1 hx]; exact e
  · simp only [↓rA, rB, gb, gr, g7, g8, Int.ofNat_lt, Nat.lt_irrefl]
    rw [List.take_of_length_le (Nat.le_refl _)] at hf
    exact ⟨_, [], [], Le.refl _, List.nil_sublist _, List.nil_sublist _, ⟨-1, rfl, by simp; exact fun h => hf s h rfl⟩, rfl, rfl⟩
set_option linter.defProp false in
def tbLD1 := (aI (aI (aI (aI Ty.sz3 Ty.by3) (aI Ty.ag3 (aI Ty.zr3 Ty.un3))) (aI (aI Ty.sz4 (aI Ty.by4 Ty.ag4)) (aI Ty.zr4 (aI Ty.un4 Ty.sz9)))) (aI (aI (aI Ty.by9 Ty.ag9) (aI Ty.zr9 (aI Ty.un9 Ty.sz78))) (aI (aI Ty.by78 (aI Ty.ag78 Ty.zr78)) (aI Ty.un78 (aI Ty.cb49 Ty.cb75)))))
theorem containsS_ok (l : List Str) (s : Str) (hl : l.length ≤ 1000000) : OkP Tryz.prog 33 [vstrs l, vstr s] (vbool (memS l s)) := by
  refine Ok.of_ex Ty.mixed Tryz.func33 rfl (by simp [Tryz.ntmps33]) (by kernel_rfl) fun F w0 I0 => ?_
  simp only [↓rA, rB, Nat.reduceEqDiff, reduceCtorEq, tbLD1]
  refine OkF_with [] [] (List.Perm.refl _) (indexS_ok l s hl) ?_
  rintro v bs rs ⟨⟨k, rfl, hk⟩, rfl, rfl⟩
  simp only [↓rA, rB, Tryz.results33]
  refine ret_done (congrArg (fun b => V.lit (.bool b)) ?_)
  rw [Bool.eq_iff_iff, decide_eq_true_eq, memS_iff]
  exact hk

/-! ### Units -/
def leS (a b : Str) : Bool := Op.bytesLess a.data.toList b.data.toList || decide (a = b)
def unitL : Option Str → List Fac → Int
  | _, [] => 0
  | p, f :: r => if wordB f.name = false then 1 else if f.exp = 0 then 70 else if outB f.exp 8 = true then 70 else if (p.any fun q => leS f.name q) = true then 3 else unitL (some f.name) r
def unitC (u : List Fac) : Int := if 4 < u.length then 2 else unitL none u
def prevN (u : List Fac) : Nat → Option Str
  | 0 => none
  | i + 1 => (u[i]?).map (·.name)
set_option linter.defProp false in
def tbLD2 := (aI (aI (aI (aI (aI Ty.sz3 Ty.by3) (aI Ty.ag3 Ty.zr3)) (aI (aI Ty.un3 Ty.sz4) (aI Ty.by4 (aI Ty.ag4 Ty.zr4)))) (aI (aI (aI Ty.un4 Ty.sz9) (aI Ty.by9 Ty.ag9)) (aI (aI Ty.zr9 Ty.un9) (aI Ty.sz29 (aI Ty.by29 Ty.ag29))))) (aI (aI (aI (aI Ty.zr29 Ty.un29) (aI Ty.sz35 Ty.by35)) (aI (aI Ty.ag35 Ty.zr35) (aI Ty.un35 (aI Ty.sz103 Ty.by103)))) (aI (aI (aI Ty.ag103 Ty.zr103) (aI Ty.fl103_0 (aI Ty.pl103_0 Ty.fl103_1))) (aI (aI Ty.pl103_1 Ty.eq103) (aI Ty.cb75 (aI Ty.cb85 Ty.cb86))))))
theorem unitC_ok (u : List Fac) : OkP Tryz.prog 73 [vFacs u] (vint (unitC u)) := by
  refine Ok.of_ex Ty.mixed Tryz.func73 rfl (by simp [Tryz.ntmps73]) (by kernel_rfl) fun F w0 I0 => ?_
  by_cases e0 : 4 < u.length
  · have e0' : (4 : Int) < u.length := by omega
    simp only [↓rA, rB, reduceCtorEq, tbLD2, Tryz.results73, List.length_map, e0']
    exact ret_done (by rw [unitC, if_pos e0])
  have e0' : ¬ (4 : Int) < u.length := by omega
  have hu : unitC u = unitL none u := by rw [unitC, if_neg e0]
  simp only [↓rA, rB, reduceCtorEq, tbLD2, Tryz.results73, List.length_map, e0']
  refine EX_for Ty.mixed (by kernel_rfl) u.length (fun i S => unitL (prevN u i) (u.drop i) = unitC u ∧ S.boxes = [] ∧ S.rows = [] ∧ S.σ 0 = vFacs u ∧ S.σ 8 = vFacs u ∧ S.σ 9 = vint u.length ∧ S.σ 10 = vint i) ⟨0, ?_⟩ (fun i S hi ⟨hf, gb, gr, g0, g8, g9, g10⟩ => ?_) (fun S ⟨hf, gb, gr, g0, g8, g9, g10⟩ => ?_)
  · simp only [rB, Nat.reduceEqDiff, reduceCtorEq]
    exact hu.symm
  · have hwi := wrap_succ (i := i) (N := u.length) hi (by omega)
    rw [List.drop_eq_getElem_cons hi, unitL] at hf
    have hn : prevN u (i + 1) = some u[i].name := by simp [prevN, hi]
    simp only [↓rA, rB, Nat.reduceAdd, Nat.reduceEqDiff, tbLD2, gb, gr, g8, g9, g10, Int.ofNat_lt, hi, List.length_map, getD_map _ _ _ hi]
    refine fun b4 h4 => ?_; replace h4 := newb h4; try simp only [Nb] at h4
    simp only [↓rA, rB, Nat.reduceAdd, Nat.reduceEqDiff, tbLD2, gb, getD_map _ _ _ hi]
    refine OkF_of _ (word_ok _) ?_
    cases e1 : wordB u[i].name
    · rw [if_pos e1] at hf
      simp only [↓rA, rB, gr]
      exact ret_done (by rw [← hf])
    rw [if_neg (by rw [e1]; decide)] at hf
    by_cases e2 : u[i].exp = 0
    · rw [if_pos e2] at hf
      simp only [↓rA, rB, Nat.reduceAdd, Nat.reduceEqDiff, tbLD2, gr, e2]
      exact ret_done (by rw [← hf])
    rw [if_neg e2] at hf
    simp only [↓rA, rB, Nat.reduceAdd, Nat.reduceEqDiff, tbLD2, gr, e2]
    refine OkF_of _ (outside_ok _ 8 (by omega)) ?_
    cases e3 : outB u[i].exp 8
    · rw [if_neg (by rw [e3]; decide)] at hf
      cases i with
      | zero =>
        simp only [↓rA, rB, Int.reduceLT, Int.reduceToNat, Nat.reduceAdd, Nat.reduceEqDiff, reduceCtorEq, gr, g0, g8, g9, g10]
        exact ⟨1, by rw [hn]; simpa [prevN] using hf, rfl, rfl⟩
      | succ j =>
        have hj : j < u.length := by omega
        have hp : prevN u (j + 1) = some u[j].name := by simp [prevN, hj]
        rw [hp] at hf
        have h0 : (0 : Int) < ((j + 1 : Nat) : Int) := by omega
        have hs : ((j + 1 : Nat) : Int) - 1 = (j : Int) := by omega
        have hws := wrap_id (n := (j : Int)) (by omega) (by omega)
        cases e4 : leS u[j + 1].name u[j].name
        · have e4' := e4
          unfold leS at e4'
          rw [if_neg (by simp only [Option.any_some, e4]; decide)] at hf
          simp only [↓rA, rB, Nat.reduceAdd, Nat.reduceEqDiff, reduceCtorEq, tbLD2, gr, g0, g8, g9, g10, hwi, h0, hs, hws, List.length_map, Int.ofNat_lt, hj, getD_map _ _ _ hj, e4']
          exact ⟨1, by rw [hn]; exact hf, rfl⟩
        · have e4' := e4
          unfold leS at e4'
          rw [if_pos (by simp only [Option.any_some, e4])] at hf
          simp only [↓rA, rB, Nat.reduceAdd, Nat.reduceEqDiff, reduceCtorEq, tbLD2, gr, g0, h0, hs, hws, List.length_map, Int.ofNat_lt, hj, getD_map _ _ _ hj, e4']
          exact ret_done (by rw [← hf])
    · rw [if_pos e3] at hf
      simp only [↓rA, rB, Nat.reduceEqDiff, gr]
      exact ret_done (by rw [← hf])
  · simp only [↓rA, rB, gb, gr, g9, g10, Int.ofNat_lt, Nat.lt_irrefl]
    rw [List.drop_eq_nil_of_le (Nat.le_refl _), unitL] at hf
    exact ret_done (by rw [← hf])

/-! ### Values -/
def okCh (low : Int) (c : UInt8) : Bool := if (c.toNat : Int) < low then false else if (126 : Int) < c.toNat then false else if (c.toNat : Int) = 34 then false else decide (¬ (c.toNat : Int) = 92)
def valC (v : Val) : Int :=
  if v.kind < 0 then 1 else if 5 < v.kind then 1 else if ¬ v.kind = 4 ∧ ¬ v.kind = 5 ∧ ¬ v.s = es0 then 1
  else if ¬ v.kind = 2 ∧ ¬ v.kind = 3 ∧ ¬ v.n = 0 ∧ (¬ v.kind = 1 ∨ ¬ v.n = 1) then 1
  else if v.n < -1152921504606846976 then 2 else if 1152921504606846976 < v.n then 2
  else if ¬ v.kind = 4 ∧ ¬ v.kind = 5 then 0
  else if v.kind = 5 then (if 32 < v.s.size then 2 else if v.s = es0 then 3 else if v.s.data.toList.all (okCh 33) = true then 0 else 3)
  else if 64 < v.s.size then 2 else if v.s.data.toList.all (okCh 32) = true then 0 else 3
set_option linter.defProp false in
def tbLD3 := (aI (aI (aI (aI (aI Ty.sz3 Ty.by3) (aI Ty.ag3 Ty.zr3)) (aI (aI Ty.un3 Ty.sz4) (aI Ty.by4 (aI Ty.ag4 Ty.zr4)))) (aI (aI (aI Ty.un4 Ty.sz5) (aI Ty.by5 Ty.ag5)) (aI (aI Ty.zr5 Ty.un5) (aI Ty.sz9 (aI Ty.by9 Ty.ag9))))) (aI (aI (aI (aI Ty.zr9 Ty.un9) (aI Ty.sz28 Ty.by28)) (aI (aI Ty.ag28 Ty.zr28) (aI Ty.fl28_0 (aI Ty.pl28_0 Ty.fl28_1)))) (aI (aI (aI Ty.pl28_1 Ty.fl28_2) (aI Ty.pl28_2 (aI Ty.sz35 Ty.by35))) (aI (aI Ty.ag35 Ty.zr35) (aI Ty.un35 (aI Ty.eq28 Ty.cb75))))))
theorem valC_ok (v : Val) : OkP Tryz.prog 62 [.agg (cVal v)] (vint (valC v)) := by
  obtain ⟨k, n, s⟩ := v
  refine Ok.of_ex Ty.mixed Tryz.func62 rfl (by simp [Tryz.ntmps62]) (by kernel_rfl) fun F w0 I0 => ?_
  simp only [↓rA, rB]
  refine fun b1 h1 => ?_; replace h1 := newb h1; try simp only [Nb] at h1
  have fi : ∀ {a b : Int}, a = b → V.lit (.int .i64 a) = vint b := fun h => by rw [h]
  rcases (by omega : k < 0 ∨ 5 < k ∨ k = 0 ∨ k = 1 ∨ k = 2 ∨ k = 3 ∨ k = 4 ∨ k = 5) with e | e | rfl | rfl | rfl | rfl | rfl | rfl
  · have n2 : ¬ k = 2 := by omega
    have n3 : ¬ k = 3 := by omega
    have n4 : ¬ k = 4 := by omega
    have n5 : ¬ k = 5 := by omega
    simp only [↓rA, rB, Nat.reduceAdd, Nat.reduceEqDiff, tbLD3, Tryz.results62, e, n2, n3, n4, n5]
    exact ret_done (fi (by simp [valC, e]))
  · have e' : ¬ k < 0 := by omega
    have n2 : ¬ k = 2 := by omega
    have n3 : ¬ k = 3 := by omega
    have n4 : ¬ k = 4 := by omega
    have n5 : ¬ k = 5 := by omega
    simp only [↓rA, rB, Nat.reduceAdd, Nat.reduceEqDiff, tbLD3, Tryz.results62, e, e', n2, n3, n4, n5]
    exact ret_done (fi (by simp [valC, e, e']))
  · by_cases e1 : s = es0
    · subst e1
      by_cases e2 : n = 0
      · subst e2
        simp only [↓rA, rB, Int.reduceEq, Int.reduceLT, Nat.reduceAdd, Nat.reduceEqDiff, tbLD3, Tryz.results62]
        exact ret_done (fi (by simp [valC]))
      · simp only [↓rA, rB, Int.reduceEq, Int.reduceLT, Nat.reduceAdd, Nat.reduceEqDiff, tbLD3, Tryz.results62, e2]
        exact ret_done (fi (by simp [valC, e2]))
    · simp only [↓rA, rB, Int.reduceEq, Int.reduceLT, Nat.reduceAdd, Nat.reduceEqDiff, tbLD3, Tryz.results62, e1]
      exact ret_done (fi (by simp [valC, e1]))
  · by_cases e1 : s = es0
    · subst e1
      by_cases e2 : n = 0
      · subst e2
        simp only [↓rA, rB, Int.reduceEq, Int.reduceLT, Nat.reduceAdd, Nat.reduceEqDiff, tbLD3, Tryz.results62]
        exact ret_done (fi (by simp [valC]))
      · by_cases e3 : n = 1
        · subst e3
          simp only [↓rA, rB, Int.reduceEq, Int.reduceLT, Nat.reduceAdd, Nat.reduceEqDiff, tbLD3, Tryz.results62]
          exact ret_done (fi (by simp [valC]))
        · simp only [↓rA, rB, Int.reduceEq, Int.reduceLT, Nat.reduceAdd, Nat.reduceEqDiff, tbLD3, Tryz.results62, e2, e3]
          exact ret_done (fi (by simp [valC, e2, e3]))
    · simp only [↓rA, rB, Int.reduceEq, Int.reduceLT, Nat.reduceAdd, Nat.reduceEqDiff, tbLD3, Tryz.results62, e1]
      exact ret_done (fi (by simp [valC, e1]))
  · by_cases e1 : s = es0
    · subst e1
      by_cases e2 : n < -1152921504606846976
      · simp only [↓rA, rB, Int.reduceEq, Int.reduceLT, Nat.reduceAdd, Nat.reduceEqDiff, tbLD3, Tryz.results62, e2]
        exact ret_done (fi (by simp [valC, e2]))
      by_cases e3 : 1152921504606846976 < n
      · simp only [↓rA, rB, Int.reduceEq, Int.reduceLT, Nat.reduceAdd, Nat.reduceEqDiff, tbLD3, Tryz.results62, e2, e3]
        exact ret_done (fi (by simp [valC, e2, e3]))
      simp only [↓rA, rB, Int.reduceEq, Int.reduceLT, Nat.reduceAdd, Nat.reduceEqDiff, tbLD3, Tryz.results62, e2, e3]
      exact ret_done (fi (by simp [valC, e2, e3]))
    · simp only [↓rA, rB, Int.reduceEq, Int.reduceLT, Nat.reduceAdd, Nat.reduceEqDiff, tbLD3, Tryz.results62, e1]
      exact ret_done (fi (by simp [valC, e1]))
  · by_cases e1 : s = es0
    · subst e1
      by_cases e2 : n < -1152921504606846976
      · simp only [↓rA, rB, Int.reduceEq, Int.reduceLT, Nat.reduceAdd, Nat.reduceEqDiff, tbLD3, Tryz.results62, e2]
        exact ret_done (fi (by simp [valC, e2]))
      by_cases e3 : 1152921504606846976 < n
      · simp only [↓rA, rB, Int.reduceEq, Int.reduceLT, Nat.reduceAdd, Nat.reduceEqDiff, tbLD3, Tryz.results62, e2, e3]
        exact ret_done (fi (by simp [valC, e2, e3]))
      simp only [↓rA, rB, Int.reduceEq, Int.reduceLT, Nat.reduceAdd, Nat.reduceEqDiff, tbLD3, Tryz.results62, e2, e3]
      exact ret_done (fi (by simp [valC, e2, e3]))
    · simp only [↓rA, rB, Int.reduceEq, Int.reduceLT, Nat.reduceAdd, Nat.reduceEqDiff, tbLD3, Tryz.results62, e1]
      exact ret_done (fi (by simp [valC, e1]))
  · by_cases e0 : n = 0
    · subst e0
      by_cases e1 : 64 < s.size
      · have e1' : (64 : Int) < s.size := by omega
        simp only [↓rA, rB, Int.reduceEq, Int.reduceLT, Nat.reduceAdd, Nat.reduceEqDiff, tbLD3, Tryz.results62, e1']
        exact ret_done (fi (by simp [valC, e1]))
      have e1' : ¬ (64 : Int) < s.size := by omega
      have hv : valC ⟨4, 0, s⟩ = if s.data.toList.all (okCh 32) = true then 0 else 3 := by simp [valC, e1]
      simp only [↓rA, rB, Int.reduceEq, Int.reduceLT, Nat.reduceAdd, Nat.reduceEqDiff, tbLD3, Tryz.results62, e1']
      refine EX_for Ty.mixed (by kernel_rfl) s.size (fun i S => (s.data.toList.take i).all (okCh 32) = true ∧ S.boxes = [(b1, .c [vint 4, vint 0, vstr s])] ∧ S.rows = [] ∧ S.σ 1 = ptr b1 ∧ S.σ 6 = .lit (.int .u8 32) ∧ S.σ 88 = vint s.size ∧ S.σ 89 = vint i) ⟨0, ?_⟩ (fun i S hi ⟨hf, gb, gr, g1, g6, g88, g89⟩ => ?_) (fun S ⟨hf, gb, gr, g1, g6, g88, g89⟩ => ?_)
      · simp only [rB, Nat.reduceEqDiff]
        try exact rfl
      · have hl : i < s.data.toList.length := by simpa using hi
        have ht := all_take (p := okCh 32) hl
        have hb := all_fail (p := okCh 32) hl
        rw [← getD_str s i hi] at ht hb
        generalize hcd : s.data.toList.getD i 0 = c at ht hb
        have hwi := wrap_succ (i := i) (N := s.size) hi (by omega)
        have cs : (c.toNat : Int) < 32 ∨ (¬ (c.toNat : Int) < 32 ∧ (126 : Int) < c.toNat) ∨ (¬ (c.toNat : Int) < 32 ∧ ¬ (126 : Int) < c.toNat ∧ (c.toNat : Int) = 34) ∨ (¬ (c.toNat : Int) < 32 ∧ ¬ (126 : Int) < c.toNat ∧ ¬ (c.toNat : Int) = 34 ∧ (c.toNat : Int) = 92) ∨ (¬ (c.toNat : Int) < 32 ∧ ¬ (126 : Int) < c.toNat ∧ ¬ (c.toNat : Int) = 34 ∧ ¬ (c.toNat : Int) = 92) := by omega
        rcases cs with cs | cs | cs | cs | cs
        · have hc : okCh 32 c = false := by simp [okCh, cs]
          simp only [↓rA, rB, Nat.reduceAdd, Nat.reduceEqDiff, tbLD3, gb, gr, g1, g6, g88, g89, Int.ofNat_lt, hi, hcd, cs]
          exact ret_done (fi (by rw [hv, hb hc]; rfl))
        · have hc : okCh 32 c = false := by simp [okCh, cs]
          simp only [↓rA, rB, Nat.reduceAdd, Nat.reduceEqDiff, tbLD3, gb, gr, g1, g6, g88, g89, Int.ofNat_lt, hi, hcd, cs]
          exact ret_done (fi (by rw [hv, hb hc]; rfl))
        · have hc : okCh 32 c = false := by simp [okCh, cs]
          simp only [↓rA, rB, Int.reduceLT, Nat.reduceAdd, Nat.reduceEqDiff, tbLD3, gb, gr, g1, g6, g88, g89, Int.ofNat_lt, hi, hcd, cs]
          exact ret_done (fi (by rw [hv, hb hc]; rfl))
        · have hc : okCh 32 c = false := by simp [okCh, cs]
          simp only [↓rA, rB, Int.reduceEq, Int.reduceLT, Nat.reduceAdd, Nat.reduceEqDiff, tbLD3, gb, gr, g1, g6, g88, g89, Int.ofNat_lt, hi, hcd, cs]
          exact ret_done (fi (by rw [hv, hb hc]; rfl))
        · have hc : okCh 32 c = true := by simp [okCh, cs]
          simp only [↓rA, rB, Nat.reduceAdd, Nat.reduceEqDiff, tbLD3, gb, gr, g1, g6, g88, g89, Int.ofNat_lt, hi, hcd, cs, hwi]
          exact ⟨0, by rw [ht, hf, hc]; rfl, rfl⟩
      · simp only [↓rA, rB, gb, gr, g88, g89, Int.ofNat_lt, Nat.lt_irrefl]
        rw [List.take_of_length_le (by simp)] at hf
        exact ret_done (fi (by rw [hv, hf]; rfl))
    · simp only [↓rA, rB, Int.reduceEq, Int.reduceLT, Nat.reduceAdd, Nat.reduceEqDiff, tbLD3, Tryz.results62, e0]
      exact ret_done (fi (by simp [valC, e0]))
  · by_cases e0 : n = 0
    · subst e0
      by_cases e1 : 32 < s.size
      · have e1' : (32 : Int) < s.size := by omega
        simp only [↓rA, rB, Int.reduceEq, Int.reduceLT, Nat.reduceAdd, Nat.reduceEqDiff, tbLD3, Tryz.results62, e1']
        exact ret_done (fi (by simp [valC, e1]))
      have e1' : ¬ (32 : Int) < s.size := by omega
      by_cases e2 : s = es0
      · subst e2
        simp only [↓rA, rB, Int.reduceEq, Int.reduceLT, Nat.reduceAdd, Nat.reduceEqDiff, tbLD3, Tryz.results62, e1']
        exact ret_done (fi (by simp [valC]; decide))
      have hv : valC ⟨5, 0, s⟩ = if s.data.toList.all (okCh 33) = true then 0 else 3 := by simp [valC, e1, e2]
      simp only [↓rA, rB, Int.reduceEq, Int.reduceLT, Nat.reduceAdd, Nat.reduceEqDiff, tbLD3, Tryz.results62, e1', e2]
      refine EX_for Ty.mixed (by kernel_rfl) s.size (fun i S => (s.data.toList.take i).all (okCh 33) = true ∧ S.boxes = [(b1, .c [vint 5, vint 0, vstr s])] ∧ S.rows = [] ∧ S.σ 1 = ptr b1 ∧ S.σ 6 = .lit (.int .u8 33) ∧ S.σ 88 = vint s.size ∧ S.σ 89 = vint i) ⟨0, ?_⟩ (fun i S hi ⟨hf, gb, gr, g1, g6, g88, g89⟩ => ?_) (fun S ⟨hf, gb, gr, g1, g6, g88, g89⟩ => ?_)
      · simp only [rB, Nat.reduceEqDiff]
        try exact rfl
      · have hl : i < s.data.toList.length := by simpa using hi
        have ht := all_take (p := okCh 33) hl
        have hb := all_fail (p := okCh 33) hl
        rw [← getD_str s i hi] at ht hb
        generalize hcd : s.data.toList.getD i 0 = c at ht hb
        have hwi := wrap_succ (i := i) (N := s.size) hi (by omega)
        have cs : (c.toNat : Int) < 33 ∨ (¬ (c.toNat : Int) < 33 ∧ (126 : Int) < c.toNat) ∨ (¬ (c.toNat : Int) < 33 ∧ ¬ (126 : Int) < c.toNat ∧ (c.toNat : Int) = 34) ∨ (¬ (c.toNat : Int) < 33 ∧ ¬ (126 : Int) < c.toNat ∧ ¬ (c.toNat : Int) = 34 ∧ (c.toNat : Int) = 92) ∨ (¬ (c.toNat : Int) < 33 ∧ ¬ (126 : Int) < c.toNat ∧ ¬ (c.toNat : Int) = 34 ∧ ¬ (c.toNat : Int) = 92) := by omega
        rcases cs with cs | cs | cs | cs | cs
        · have hc : okCh 33 c = false := by simp [okCh, cs]
          simp only [↓rA, rB, Nat.reduceAdd, Nat.reduceEqDiff, tbLD3, gb, gr, g1, g6, g88, g89, Int.ofNat_lt, hi, hcd, cs]
          exact ret_done (fi (by rw [hv, hb hc]; rfl))
        · have hc : okCh 33 c = false := by simp [okCh, cs]
          simp only [↓rA, rB, Nat.reduceAdd, Nat.reduceEqDiff, tbLD3, gb, gr, g1, g6, g88, g89, Int.ofNat_lt, hi, hcd, cs]
          exact ret_done (fi (by rw [hv, hb hc]; rfl))
        · have hc : okCh 33 c = false := by simp [okCh, cs]
          simp only [↓rA, rB, Int.reduceLT, Nat.reduceAdd, Nat.reduceEqDiff, tbLD3, gb, gr, g1, g6, g88, g89, Int.ofNat_lt, hi, hcd, cs]
          exact ret_done (fi (by rw [hv, hb hc]; rfl))
        · have hc : okCh 33 c = false := by simp [okCh, cs]
          simp only [↓rA, rB, Int.reduceEq, Int.reduceLT, Nat.reduceAdd, Nat.reduceEqDiff, tbLD3, gb, gr, g1, g6, g88, g89, Int.ofNat_lt, hi, hcd, cs]
          exact ret_done (fi (by rw [hv, hb hc]; rfl))
        · have hc : okCh 33 c = true := by simp [okCh, cs]
          simp only [↓rA, rB, Nat.reduceAdd, Nat.reduceEqDiff, tbLD3, gb, gr, g1, g6, g88, g89, Int.ofNat_lt, hi, hcd, cs, hwi]
          exact ⟨0, by rw [ht, hf, hc]; rfl, rfl⟩
      · simp only [↓rA, rB, gb, gr, g88, g89, Int.ofNat_lt, Nat.lt_irrefl]
        rw [List.take_of_length_le (by simp)] at hf
        exact ret_done (fi (by rw [hv, hf]; rfl))
    · simp only [↓rA, rB, Int.reduceEq, Int.reduceLT, Nat.reduceAdd, Nat.reduceEqDiff, tbLD3, Tryz.results62, e0]
      exact ret_done (fi (by simp [valC, e0]))

/-! ### Types -/
abbrev vTy (k : Int) (u : List Fac) (of : Str) : V := .agg [vint k, vFacs u, vstr of]
set_option linter.defProp false in
def tbLD4 := (aI (aI (aI (aI Ty.sz3 (aI Ty.by3 Ty.ag3)) (aI Ty.zr3 (aI Ty.un3 Ty.sz4))) (aI (aI Ty.by4 (aI Ty.ag4 Ty.zr4)) (aI (aI Ty.un4 Ty.sz9) (aI Ty.by9 Ty.ag9)))) (aI (aI (aI Ty.zr9 (aI Ty.un9 Ty.sz103)) (aI Ty.by103 (aI Ty.ag103 Ty.zr103))) (aI (aI Ty.fl103_0 (aI Ty.pl103_0 Ty.fl103_1)) (aI (aI Ty.pl103_1 Ty.eq103) (aI Ty.cb64 Ty.cb75)))))
theorem notName_ok (f : Fac) : OkP Tryz.prog 75 [.agg (cFac f)] (vbool (!nameB f.name)) := by
  refine Ok.of_ex Ty.mixed Tryz.func75 rfl (by simp [Tryz.ntmps75]) (by kernel_rfl) fun F w0 I0 => ?_
  simp only [↓rA, rB]
  refine fun b1 h1 => ?_; replace h1 := newb h1; try simp only [Nb] at h1
  simp only [↓rA, rB, Nat.reduceAdd, Nat.reduceEqDiff, tbLD4]
  refine OkF_of _ (name_ok f.name) ?_
  simp only [↓rA, rB, Tryz.results75]
  exact ret_done rfl
def allN (u : List Fac) : Bool := u.all fun f => nameB f.name
abbrev fnT : V := .lit (.func (.func 75) #[] #[])
set_option linter.defProp false in
def tbLD5 := (aI (aI (aI (aI (aI Ty.sz3 Ty.by3) (aI Ty.ag3 Ty.zr3)) (aI (aI Ty.un3 Ty.sz4) (aI Ty.by4 Ty.ag4))) (aI (aI (aI Ty.zr4 Ty.un4) (aI Ty.sz9 Ty.by9)) (aI (aI Ty.ag9 Ty.zr9) (aI Ty.un9 (aI Ty.sz29 Ty.by29))))) (aI (aI (aI (aI Ty.ag29 Ty.zr29) (aI Ty.un29 Ty.sz103)) (aI (aI Ty.by103 Ty.ag103) (aI Ty.zr103 Ty.fl103_0))) (aI (aI (aI Ty.pl103_0 Ty.fl103_1) (aI Ty.pl103_1 Ty.sz118)) (aI (aI Ty.by118 Ty.ag118) (aI Ty.zr118 (aI Ty.eq103 Ty.cb75))))))
theorem indexN_ok (u : List Fac) (hl : u.length ≤ 1000000) : Ok Tryz.prog 87 [vFacs u, fnT] [] fun v bs rs => (∃ k : Int, v = vint k ∧ decide (0 ≤ k) = !allN u) ∧ bs = [] ∧ rs = [] := by
  refine Ok.of_ex Ty.mixed Tryz.func87 rfl (by simp [Tryz.ntmps87]) (by kernel_rfl) fun F w0 I0 => ?_
  simp only [↓rA, rB, reduceCtorEq, tbLD5, Tryz.results87]
  refine EX_for Ty.mixed (by kernel_rfl) u.length (fun i S => (u.take i).all (fun f => nameB f.name) = true ∧ S.boxes = [] ∧ S.rows = [] ∧ S.σ 0 = vFacs u ∧ S.σ 1 = fnT ∧ S.σ 7 = vint u.length ∧ S.σ 8 = vint i) ⟨0, ?_⟩ (fun i S hi ⟨hf, gb, gr, g0, g1, g7, g8⟩ => ?_) (fun S ⟨hf, gb, gr, g0, g1, g7, g8⟩ => ?_)
  · simp only [rB, Nat.reduceEqDiff, reduceCtorEq, List.length_map]
  · have hwi := wrap_succ (i := i) (N := u.length) hi (by omega)
    have ht := all_take (p := fun f : Fac => nameB f.name) hi
    have hb := all_fail (p := fun f : Fac => nameB f.name) hi
    simp only [↓rA, rB, Nat.reduceAdd, Nat.reduceEqDiff, reduceCtorEq, tbLD5, gb, g0, g1, g7, g8, Int.ofNat_lt, hi, List.length_map, getD_map _ _ _ hi]
    refine OkF_of _ (notName_ok u[i]) ?_
    cases e : nameB u[i].name
    · simp only [↓rA, rB, Nat.reduceEqDiff, gr]
      exact ⟨_, [], [], Le.refl _, List.nil_sublist _, List.nil_sublist _, ⟨i, rfl, by rw [allN, hb e]; simp⟩, rfl, rfl⟩
    · simp only [↓rA, rB, Nat.reduceEqDiff, reduceCtorEq, gr, g0, g1, g7, g8, hwi]
      exact ⟨0, by rw [ht, hf, e]; rfl⟩
  · simp only [↓rA, rB, gb, gr, g7, g8, Int.ofNat_lt, Nat.lt_irrefl]
    rw [List.take_of_length_le (Nat.le_refl _)] at hf
    exact ⟨_, [], [], Le.refl _, List.nil_sublist _, List.nil_sublist _, ⟨-1, rfl, by rw [allN, hf]; rfl⟩, rfl, rfl⟩
set_option linter.defProp false in
def tbLD6 := (aI (aI (aI (aI (aI Ty.sz3 Ty.by3) (aI Ty.ag3 Ty.zr3)) (aI (aI Ty.un3 Ty.sz4) (aI Ty.by4 Ty.ag4))) (aI (aI (aI Ty.zr4 Ty.un4) (aI Ty.sz9 Ty.by9)) (aI (aI Ty.ag9 Ty.zr9) (aI Ty.un9 (aI Ty.sz29 Ty.by29))))) (aI (aI (aI (aI Ty.ag29 Ty.zr29) (aI Ty.un29 Ty.sz103)) (aI (aI Ty.by103 Ty.ag103) (aI Ty.zr103 (aI Ty.fl103_0 Ty.pl103_0)))) (aI (aI (aI Ty.fl103_1 Ty.pl103_1) (aI Ty.sz118 Ty.by118)) (aI (aI Ty.ag118 Ty.zr118) (aI Ty.eq103 (aI Ty.cb75 Ty.cb87))))))
theorem containsN_ok (u : List Fac) (hl : u.length ≤ 1000000) : OkP Tryz.prog 74 [vFacs u, fnT] (vbool (!allN u)) := by
  refine Ok.of_ex Ty.mixed Tryz.func74 rfl (by simp [Tryz.ntmps74]) (by kernel_rfl) fun F w0 I0 => ?_
  simp only [↓rA, rB, Nat.reduceEqDiff, reduceCtorEq, tbLD6]
  refine OkF_with [] [] (List.Perm.refl _) (indexN_ok u hl) ?_
  rintro v bs rs ⟨⟨k, rfl, hk⟩, rfl, rfl⟩
  simp only [↓rA, rB, Tryz.results74]
  exact ret_done (by rw [hk])
def typeC (k : Int) (u : List Fac) (of : Str) : Int :=
  if k < 1 then 3 else if 5 < k then 3 else if 0 < u.length ∧ ¬ (k = 2 ∨ k = 3) then 3
  else if k = 5 then (if of = es0 then 3 else if nameB of = false then 3 else if ¬ unitC u = 0 then 70 else if allN u = false then 70 else 0)
  else if ¬ of = es0 then 3 else if ¬ unitC u = 0 then 70 else if allN u = false then 70 else 0
theorem unitC_len {u : List Fac} (h : unitC u = 0) : u.length ≤ 4 := by
  unfold unitC at h
  split at h
  · cases h
  · omega
set_option linter.defProp false in
def tbLD7 := (aI (aI (aI (aI (aI Ty.sz3 (aI Ty.by3 Ty.ag3)) (aI Ty.zr3 (aI Ty.un3 Ty.sz4))) (aI (aI Ty.by4 (aI Ty.ag4 Ty.zr4)) (aI (aI Ty.un4 Ty.sz9) (aI Ty.by9 Ty.ag9)))) (aI (aI (aI Ty.zr9 (aI Ty.un9 Ty.sz29)) (aI Ty.by29 (aI Ty.ag29 Ty.zr29))) (aI (aI Ty.un29 (aI Ty.sz35 Ty.by35)) (aI (aI Ty.ag35 Ty.zr35) (aI Ty.un35 Ty.sz49))))) (aI (aI (aI (aI Ty.by49 (aI Ty.ag49 Ty.zr49)) (aI Ty.fl49_0 (aI Ty.pl49_0 Ty.fl49_1))) (aI (aI Ty.pl49_1 (aI Ty.fl49_2 Ty.pl49_2)) (aI (aI Ty.sz103 Ty.by103) (aI Ty.ag103 Ty.zr103)))) (aI (aI (aI Ty.fl103_0 (aI Ty.pl103_0 Ty.fl103_1)) (aI (aI Ty.pl103_1 Ty.sz118) (aI Ty.by118 Ty.ag118))) (aI (aI Ty.zr118 (aI Ty.eq103 Ty.cb64)) (aI (aI Ty.cb72 Ty.cb73) (aI Ty.cb74 Ty.cb75))))))
theorem typeC_ok (k : Int) (u : List Fac) (of : Str) : OkP Tryz.prog 63 [vTy k u of] (vint (typeC k u of)) := by
  have fi : ∀ {a b : Int}, a = b → V.lit (.int .i64 a) = vint b := fun h => by rw [h]
  refine Ok.of_ex Ty.mixed Tryz.func63 rfl (by simp [Tryz.ntmps63]) (by kernel_rfl) fun F w0 I0 => ?_
  simp only [↓rA, rB]
  refine fun b1 h1 => ?_; replace h1 := newb h1; try simp only [Nb] at h1
  by_cases e0 : k < 1
  · simp only [↓rA, rB, Nat.reduceAdd, Nat.reduceEqDiff, tbLD7, Tryz.results63, e0]
    exact ret_done (fi (by simp [typeC, e0]))
  by_cases e1 : 5 < k
  · simp only [↓rA, rB, Nat.reduceAdd, Nat.reduceEqDiff, tbLD7, Tryz.results63, e0, e1]
    exact ret_done (fi (by simp [typeC, e0, e1]))
  by_cases e2 : 0 < u.length
  · have e2' : (0 : Int) < u.length := by omega
    simp only [↓rA, rB, Nat.reduceAdd, Nat.reduceEqDiff, tbLD7, e0, e1, e2', List.length_map]
    refine OkF_of _ (isNumber_ok k u of) ?_
    by_cases e3 : k = 2 ∨ k = 3
    · have ek : ¬ k = 5 := by omega
      by_cases e4 : of = es0
      · subst e4
        simp only [↓rA, rB, Nat.reduceAdd, Nat.reduceEqDiff, tbLD7, e3, ek]
        refine OkF_of _ (unitC_ok u) ?_
        by_cases e5 : unitC u = 0
        · simp only [↓rA, rB, Nat.reduceAdd, Nat.reduceEqDiff, tbLD7, e5]
          refine OkF_of _ (containsN_ok u (by have := unitC_len e5; omega)) ?_
          cases e6 : allN u
          · simp only [↓rA, rB, Nat.reduceEqDiff, Tryz.results63]
            exact ret_done (fi (by simp [typeC, e0, e1, e3, ek, e5, e6]))
          · simp only [↓rA, rB, Nat.reduceEqDiff, Tryz.results63]
            exact ret_done (fi (by simp [typeC, e0, e1, e3, ek, e5, e6]))
        · simp only [↓rA, rB, Nat.reduceEqDiff, Tryz.results63, e5]
          exact ret_done (fi (by simp [typeC, e0, e1, e3, ek, e5]))
      · simp only [↓rA, rB, Nat.reduceAdd, Nat.reduceEqDiff, tbLD7, Tryz.results63, e3, ek, e4]
        exact ret_done (fi (by simp [typeC, e0, e1, e3, ek, e4]))
    · simp only [↓rA, rB, Nat.reduceEqDiff, Tryz.results63, e3]
      exact ret_done (fi (by simp [typeC, e0, e1, e2, e3]))
  · have e2' : ¬ (0 : Int) < u.length := by omega
    by_cases e3 : k = 5
    · subst e3
      by_cases e4 : of = es0
      · subst e4
        simp only [↓rA, rB, Int.reduceLT, Nat.reduceAdd, Nat.reduceEqDiff, reduceCtorEq, tbLD7, Tryz.results63, e2', List.length_map]
        exact ret_done (fi (by simp [typeC, e2]))
      · simp only [↓rA, rB, Int.reduceLT, Nat.reduceAdd, Nat.reduceEqDiff, tbLD7, e2', e4, List.length_map]
        refine OkF_of _ (name_ok of) ?_
        cases e5 : nameB of
        · simp only [↓rA, rB, Nat.reduceEqDiff, Tryz.results63]
          exact ret_done (fi (by simp [typeC, e2, e4, e5]))
        · simp only [↓rA, rB, Nat.reduceAdd, Nat.reduceEqDiff, tbLD7]
          refine OkF_of _ (unitC_ok u) ?_
          by_cases e6 : unitC u = 0
          · simp only [↓rA, rB, Nat.reduceAdd, Nat.reduceEqDiff, tbLD7, e6]
            refine OkF_of _ (containsN_ok u (by have := unitC_len e6; omega)) ?_
            cases e7 : allN u
            · simp only [↓rA, rB, Nat.reduceEqDiff, Tryz.results63]
              exact ret_done (fi (by simp [typeC, e2, e4, e5, e6, e7]))
            · simp only [↓rA, rB, Nat.reduceEqDiff, Tryz.results63]
              exact ret_done (fi (by simp [typeC, e2, e4, e5, e6, e7]))
          · simp only [↓rA, rB, Nat.reduceEqDiff, Tryz.results63, e6]
            exact ret_done (fi (by simp [typeC, e2, e4, e5, e6]))
    · by_cases e4 : of = es0
      · subst e4
        simp only [↓rA, rB, Nat.reduceAdd, Nat.reduceEqDiff, tbLD7, e0, e1, e2', e3, List.length_map]
        refine OkF_of _ (unitC_ok u) ?_
        by_cases e5 : unitC u = 0
        · simp only [↓rA, rB, Nat.reduceAdd, Nat.reduceEqDiff, tbLD7, e5]
          refine OkF_of _ (containsN_ok u (by have := unitC_len e5; omega)) ?_
          cases e6 : allN u
          · simp only [↓rA, rB, Nat.reduceEqDiff, Tryz.results63]
            exact ret_done (fi (by simp [typeC, e0, e1, e2, e3, e5, e6]))
          · simp only [↓rA, rB, Nat.reduceEqDiff, Tryz.results63]
            exact ret_done (fi (by simp [typeC, e0, e1, e2, e3, e5, e6]))
        · simp only [↓rA, rB, Nat.reduceEqDiff, Tryz.results63, e5]
          exact ret_done (fi (by simp [typeC, e0, e1, e2, e3, e5]))
      · simp only [↓rA, rB, Nat.reduceAdd, Nat.reduceEqDiff, tbLD7, Tryz.results63, e0, e1, e2', e3, e4, List.length_map]
        exact ret_done (fi (by simp [typeC, e0, e1, e2, e3, e4]))
end Go.Proofs.YtphkmlogjgeipaaGreatDoor

/- Contracts of the reference's checks, part a: words and names. Printed by mkO7.py. -/
set_option linter.unusedSimpArgs false
set_option maxRecDepth 100000
namespace Go.Lo
open Go.VL Go.Ar
def padW : List (List UInt8) → List UInt8
  | [] => []
  | w :: r => w ++ 32 :: padW r
theorem sep_eq {s w : List UInt8} (hs : (32 : UInt8) ∉ s) (hw : (32 : UInt8) ∉ w) : ∀ {a b : List UInt8}, s ++ 32 :: a = w ++ 32 :: b → s = w := by
  induction s generalizing w with
  | nil =>
    intro a b h
    cases w with
    | nil => rfl
    | cons c r =>
      simp only [List.nil_append, List.cons_append, List.cons.injEq] at h
      exact absurd (by rw [h.1]; exact List.mem_cons_self) hw
  | cons c r ih =>
    intro a b h
    cases w with
    | nil =>
      simp only [List.nil_append, List.cons_append, List.cons.injEq] at h
      exact absurd (by rw [← h.1]; exact List.mem_cons_self) hs
    | cons d t =>
      simp only [List.cons_append, List.cons.injEq] at h
      rw [h.1, ih (fun h => hs (List.mem_cons_of_mem _ h)) (fun h => hw (List.mem_cons_of_mem _ h)) h.2]
theorem infix_app {x : UInt8} {l : List UInt8} : ∀ {w r : List UInt8}, x ∉ w → (x :: l) <:+: w ++ r → (x :: l) <:+: r
  | [], r, _, h => h
  | c :: w, r, hx, h => by
    rw [List.cons_append, List.infix_cons_iff] at h
    rcases h with h | h
    · rw [List.cons_prefix_cons] at h
      exact absurd (by rw [h.1]; exact List.mem_cons_self) hx
    · exact infix_app (fun h => hx (List.mem_cons_of_mem _ h)) h
theorem pad_iff {s : List UInt8} (hs : (32 : UInt8) ∉ s) : ∀ {ws : List (List UInt8)}, (∀ w ∈ ws, (32 : UInt8) ∉ w) → ((32 :: (s ++ [32])) <:+: (32 :: padW ws) ↔ s ∈ ws)
  | [], _ => by
    constructor
    · intro h
      have := h.length_le
      simp [padW] at this
    · intro h; cases h
  | w :: ws, hw => by
    have hw0 := hw w List.mem_cons_self
    have ih := pad_iff hs (ws := ws) fun x hx => hw x (List.mem_cons_of_mem _ hx)
    rw [List.infix_cons_iff, padW, List.mem_cons, ← ih]
    constructor
    · rintro (h | h)
      · rw [List.cons_prefix_cons] at h
        obtain ⟨t, ht⟩ := h.2
        refine .inl (sep_eq hs hw0 (a := t) (b := padW ws) ?_)
        rw [← ht]; simp
      · exact .inr (infix_app hw0 h)
    · rintro (rfl | h)
      · refine .inl ?_
        rw [List.cons_prefix_cons]
        exact ⟨rfl, padW ws, by simp⟩
      · refine .inr (h.trans (List.suffix_append _ _).isInfix)
theorem contains_iff (s sub : List UInt8) : Lib.contains s sub = true ↔ sub <:+: s := by
  unfold Lib.contains
  rw [decide_eq_true_iff]
  constructor
  · intro h
    rcases Lib.index_spec s sub with ⟨h1, _⟩ | ⟨i, h1, h2, h3, _⟩
    · omega
    · unfold Lib.occAt at h3
      exact (List.isPrefixOf_iff_prefix.1 h3).isInfix.trans (List.drop_suffix i s).isInfix
  · rintro ⟨a, b, h⟩
    rcases Lib.index_spec s sub with ⟨h1, h2⟩ | ⟨i, h1, _⟩
    · have := h2 a.length (by rw [← h]; simp)
      unfold Lib.occAt at this
      rw [← h, List.append_assoc, List.drop_left] at this
      rw [List.isPrefixOf_iff_prefix.2 (List.prefix_append _ _)] at this
      cases this
    · omega

/-- The words that are no names. -/
abbrev kwS : List Str := [⟨#[116, 97, 98, 108, 101]⟩, ⟨#[102, 101, 97, 116, 117, 114, 101]⟩, ⟨#[111, 102]⟩, ⟨#[107, 101, 101, 112]⟩, ⟨#[98, 111, 111, 108]⟩, ⟨#[116, 101, 120, 116]⟩, ⟨#[107, 101, 121]⟩, ⟨#[105, 110, 116]⟩, ⟨#[100, 101, 99]⟩, ⟨#[105, 102]⟩, ⟨#[116, 104, 101, 110]⟩, ⟨#[101, 108, 115, 101]⟩, ⟨#[100, 101, 102, 97, 117, 108, 116]⟩, ⟨#[111, 114]⟩, ⟨#[97, 110, 100]⟩, ⟨#[110, 111, 116]⟩, ⟨#[116, 114, 117, 101]⟩, ⟨#[102, 97, 108, 115, 101]⟩, ⟨#[110, 117, 108, 108]⟩, ⟨#[99, 111, 117, 110, 116]⟩, ⟨#[115, 117, 109]⟩, ⟨#[109, 101, 97, 110]⟩, ⟨#[109, 105, 110]⟩, ⟨#[109, 97, 120]⟩, ⟨#[102, 105, 114, 115, 116]⟩, ⟨#[108, 97, 115, 116]⟩, ⟨#[100, 105, 115, 116, 105, 110, 99, 116]⟩, ⟨#[113, 117, 97, 110, 116, 105, 108, 101]⟩, ⟨#[100, 101, 99, 97, 121]⟩, ⟨#[97, 108, 108]⟩, ⟨#[115, 108, 105, 100, 105, 110, 103]⟩, ⟨#[116, 117, 109, 98, 108, 105, 110, 103]⟩, ⟨#[115, 101, 115, 115, 105, 111, 110]⟩, ⟨#[119, 104, 101, 114, 101]⟩]
def kwL : List (List UInt8) := kwS.map fun w => w.data.toList

def kwB (s : Str) : Bool := kwS.any fun w => decide (s = w)
theorem kwB_iff {s : Str} : kwB s = true ↔ s ∈ kwS := by
  unfold kwB
  rw [List.any_eq_true]
  exact ⟨fun ⟨x, h, e⟩ => by rw [of_decide_eq_true e]; exact h, fun h => ⟨s, h, decide_eq_true rfl⟩⟩
theorem kwB_f {s : Str} (h : s ∉ kwS) : kwB s = false := by
  cases e : kwB s
  · rfl
  · exact absurd (kwB_iff.1 e) h
end Go.Lo
namespace Go.Proofs.YtphkmlogjgeipaaGreatDoor
open Go.VL Go.Ar Go.Lo Go.Proofs.YtphkmlogjgeipaaGreatDoor
theorem wordsL_pad : wordsL = 32 :: padW kwL := by decide +kernel
theorem kw_no : ∀ w ∈ kwL, (32 : UInt8) ∉ w := by decide +kernel
theorem es0_not : kwB es0 = false := by decide +kernel
theorem str_ext {s t : Str} (h : s.data.toList = t.data.toList) : s = t := by
  cases s; cases t
  simp only [ByteArray.mk.injEq]
  exact Array.toList_inj.1 h
theorem mem_kwL {s : Str} : s.data.toList ∈ kwL ↔ s ∈ kwS := by
  unfold kwL
  rw [List.mem_map]
  exact ⟨fun ⟨t, h, e⟩ => by rw [← str_ext e]; exact h, fun h => ⟨s, h, rfl⟩⟩
theorem keyB_iff (s : Str) : keyB s = kwB s := by
  unfold keyB
  split
  · rename_i h
    rw [h]
    exact es0_not.symm
  · split
    · rename_i h
      refine (kwB_f fun hm => ?_).symm
      have h1 := kw_no _ (mem_kwL.2 hm)
      obtain ⟨a, b, e⟩ := (contains_iff _ _).1 h
      exact h1 (by rw [← e]; simp)
    · rename_i h
      have hs : (32 : UInt8) ∉ s.data.toList := fun hm => h ((contains_iff _ _).2 (by obtain ⟨a, b, e⟩ := List.append_of_mem hm; exact ⟨a, b, by rw [e]; simp⟩))
      rw [Bool.eq_iff_iff, contains_iff, wordsL_pad, pad_iff hs kw_no, mem_kwL, kwB_iff]
set_option linter.defProp false in
def tbO70 := (aI (aI (aI Ty.sz4 Ty.by4) (aI Ty.ag4 (aI Ty.zr4 Ty.un4))) (aI (aI Ty.sz9 Ty.by9) (aI Ty.ag9 (aI Ty.zr9 Ty.un9))))
theorem keywordR_ok (s : Str) : OkP Tryz.prog 101 [vstr s] (vbool (kwB s)) := by
  have fb : ∀ {a b : Bool}, a = b → V.lit (.bool a) = vbool b := fun h => by rw [h]
  refine Ok.of_ex Ty.mixed Tryz.func101 rfl (by simp [Tryz.ntmps101]) (by kernel_rfl) fun F w0 I0 => ?_
  simp only [↓rA, rB, reduceCtorEq]
  refine onCond_splitb (fun h0 => ?_) (fun h0 => ?_)
  · simp only [↓rA, rB, Tryz.results101, h0]
    have e : s = kwS[0]'(by decide) := of_decide_eq_true h0
    have m : s ∈ kwS := by rw [e]; exact List.getElem_mem _
    exact ret_done (fb (kwB_iff.2 m).symm)
  simp only [↓rA, rB, Nat.reduceEqDiff, h0]
  refine onCond_splitb (fun h1 => ?_) (fun h1 => ?_)
  · simp only [↓rA, rB, Tryz.results101, h1]
    have e : s = kwS[1]'(by decide) := of_decide_eq_true h1
    have m : s ∈ kwS := by rw [e]; exact List.getElem_mem _
    exact ret_done (fb (kwB_iff.2 m).symm)
  simp only [↓rA, rB, Nat.reduceEqDiff, h1]
  refine onCond_splitb (fun h2 => ?_) (fun h2 => ?_)
  · simp only [↓rA, rB, Tryz.results101, h2]
    have e : s = kwS[2]'(by decide) := of_decide_eq_true h2
    have m : s ∈ kwS := by rw [e]; exact List.getElem_mem _
    exact ret_done (fb (kwB_iff.2 m).symm)
  simp only [↓rA, rB, Nat.reduceEqDiff, h2]
  refine onCond_splitb (fun h3 => ?_) (fun h3 => ?_)
  · simp only [↓rA, rB, Tryz.results101, h3]
    have e : s = kwS[3]'(by decide) := of_decide_eq_true h3
    have m : s ∈ kwS := by rw [e]; exact List.getElem_mem _
    exact ret_done (fb (kwB_iff.2 m).symm)
  simp only [↓rA, rB, Nat.reduceEqDiff, h3]
  refine onCond_splitb (fun h4 => ?_) (fun h4 => ?_)
  · simp only [↓rA, rB, Tryz.results101, h4]
    have e : s = kwS[4]'(by decide) := of_decide_eq_true h4
    have m : s ∈ kwS := by rw [e]; exact List.getElem_mem _
    exact ret_done (fb (kwB_iff.2 m).symm)
  simp only [↓rA, rB, Nat.reduceEqDiff, h4]
  refine onCond_splitb (fun h5 => ?_) (fun h5 => ?_)
  · simp only [↓rA, rB, Tryz.results101, h5]
    have e : s = kwS[5]'(by decide) := of_decide_eq_true h5
    have m : s ∈ kwS := by rw [e]; exact List.getElem_mem _
    exact ret_done (fb (kwB_iff.2 m).symm)
  simp only [↓rA, rB, Nat.reduceEqDiff, h5]
  refine onCond_splitb (fun h6 => ?_) (fun h6 => ?_)
  · simp only [↓rA, rB, Tryz.results101, h6]
    have e : s = kwS[6]'(by decide) := of_decide_eq_true h6
    have m : s ∈ kwS := by rw [e]; exact List.getElem_mem _
    exact ret_done (fb (kwB_iff.2 m).symm)
  simp only [↓rA, rB, Nat.reduceEqDiff, h6]
  refine onCond_splitb (fun h7 => ?_) (fun h7 => ?_)
  · simp only [↓rA, rB, Tryz.results101, h7]
    have e : s = kwS[7]'(by decide) := of_decide_eq_true h7
    have m : s ∈ kwS := by rw [e]; exact List.getElem_mem _
    exact ret_done (fb (kwB_iff.2 m).symm)
  simp only [↓rA, rB, Nat.reduceEqDiff, h7]
  refine onCond_splitb (fun h8 => ?_) (fun h8 => ?_)
  · simp only [↓rA, rB, Tryz.results101, h8]
    have e : s = kwS[8]'(by decide) := of_decide_eq_true h8
    have m : s ∈ kwS := by rw [e]; exact List.getElem_mem _
    exact ret_done (fb (kwB_iff.2 m).symm)
  simp only [↓rA, rB, Nat.reduceEqDiff, h8]
  refine onCond_splitb (fun h9 => ?_) (fun h9 => ?_)
  · simp only [↓rA, rB, Tryz.results101, h9]
    have e : s = kwS[9]'(by decide) := of_decide_eq_true h9
    have m : s ∈ kwS := by rw [e]; exact List.getElem_mem _
    exact ret_done (fb (kwB_iff.2 m).symm)
  simp only [↓rA, rB, Nat.reduceEqDiff, h9]
  refine onCond_splitb (fun h10 => ?_) (fun h10 => ?_)
  · simp only [↓rA, rB, Tryz.results101, h10]
    have e : s = kwS[10]'(by decide) := of_decide_eq_true h10
    have m : s ∈ kwS := by rw [e]; exact List.getElem_mem _
    exact ret_done (fb (kwB_iff.2 m).symm)
  simp only [↓rA, rB, Nat.reduceEqDiff, h10]
  refine onCond_splitb (fun h11 => ?_) (fun h11 => ?_)
  · simp only [↓rA, rB, Tryz.results101, h11]
    have e : s = kwS[11]'(by decide) := of_decide_eq_true h11
    have m : s ∈ kwS := by rw [e]; exact List.getElem_mem _
    exact ret_done (fb (kwB_iff.2 m).symm)
  simp only [↓rA, rB, Nat.reduceEqDiff, h11]
  refine onCond_splitb (fun h12 => ?_) (fun h12 => ?_)
  · simp only [↓rA, rB, Tryz.results101, h12]
    have e : s = kwS[12]'(by decide) := of_decide_eq_true h12
    have m : s ∈ kwS := by rw [e]; exact List.getElem_mem _
    exact ret_done (fb (kwB_iff.2 m).symm)
  simp only [↓rA, rB, Nat.reduceEqDiff, h12]
  refine onCond_splitb (fun h13 => ?_) (fun h13 => ?_)
  · simp only [↓rA, rB, Tryz.results101, h13]
    have e : s = kwS[13]'(by decide) := of_decide_eq_true h13
    have m : s ∈ kwS := by rw [e]; exact List.getElem_mem _
    exact ret_done (fb (kwB_iff.2 m).symm)
  simp only [↓rA, rB, Nat.reduceEqDiff, h13]
  refine onCond_splitb (fun h14 => ?_) (fun h14 => ?_)
  · simp only [↓rA, rB, Tryz.results101, h14]
    have e : s = kwS[14]'(by decide) := of_decide_eq_true h14
    have m : s ∈ kwS := by rw [e]; exact List.getElem_mem _
    exact ret_done (fb (kwB_iff.2 m).symm)
  simp only [↓rA, rB, Nat.reduceEqDiff, h14]
  refine onCond_splitb (fun h15 => ?_) (fun h15 => ?_)
  · simp only [↓rA, rB, Tryz.results101, h15]
    have e : s = kwS[15]'(by decide) := of_decide_eq_true h15
    have m : s ∈ kwS := by rw [e]; exact List.getElem_mem _
    exact ret_done (fb (kwB_iff.2 m).symm)
  simp only [↓rA, rB, Nat.reduceEqDiff, h15]
  refine onCond_splitb (fun h16 => ?_) (fun h16 => ?_)
  · simp only [↓rA, rB, Tryz.results101, h16]
    have e : s = kwS[16]'(by decide) := of_decide_eq_true h16
    have m : s ∈ kwS := by rw [e]; exact List.getElem_mem _
    exact ret_done (fb (kwB_iff.2 m).symm)
  simp only [↓rA, rB, Nat.reduceEqDiff, h16]
  refine onCond_splitb (fun h17 => ?_) (fun h17 => ?_)
  · simp only [↓rA, rB, Tryz.results101, h17]
    have e : s = kwS[17]'(by decide) := of_decide_eq_true h17
    have m : s ∈ kwS := by rw [e]; exact List.getElem_mem _
    exact ret_done (fb (kwB_iff.2 m).symm)
  simp only [↓rA, rB, Nat.reduceEqDiff, h17]
  refine onCond_splitb (fun h18 => ?_) (fun h18 => ?_)
  · simp only [↓rA, rB, Tryz.results101, h18]
    have e : s = kwS[18]'(by decide) := of_decide_eq_true h18
    have m : s ∈ kwS := by rw [e]; exact List.getElem_mem _
    exact ret_done (fb (kwB_iff.2 m).symm)
  simp only [↓rA, rB, Nat.reduceEqDiff, h18]
  refine onCond_splitb (fun h19 => ?_) (fun h19 => ?_)
  · simp only [↓rA, rB, Tryz.results101, h19]
    have e : s = kwS[19]'(by decide) := of_decide_eq_true h19
    have m : s ∈ kwS := by rw [e]; exact List.getElem_mem _
    exact ret_done (fb (kwB_iff.2 m).symm)
  simp only [↓rA, rB, Nat.reduceEqDiff, h19]
  refine onCond_splitb (fun h20 => ?_) (fun h20 => ?_)
  · simp only [↓rA, rB, Tryz.results101, h20]
    have e : s = kwS[20]'(by decide) := of_decide_eq_true h20
    have m : s ∈ kwS := by rw [e]; exact List.getElem_mem _
    exact ret_done (fb (kwB_iff.2 m).symm)
  simp only [↓rA, rB, Nat.reduceEqDiff, h20]
  refine onCond_splitb (fun h21 => ?_) (fun h21 => ?_)
  · simp only [↓rA, rB, Tryz.results101, h21]
    have e : s = kwS[21]'(by decide) := of_decide_eq_true h21
    have m : s ∈ kwS := by rw [e]; exact List.getElem_mem _
    exact ret_done (fb (kwB_iff.2 m).symm)
  simp only [↓rA, rB, Nat.reduceEqDiff, h21]
  refine onCond_splitb (fun h22 => ?_) (fun h22 => ?_)
  · simp only [↓rA, rB, Tryz.results101, h22]
    have e : s = kwS[22]'(by decide) := of_decide_eq_true h22
    have m : s ∈ kwS := by rw [e]; exact List.getElem_mem _
    exact ret_done (fb (kwB_iff.2 m).symm)
  simp only [↓rA, rB, Nat.reduceEqDiff, h22]
  refine onCond_splitb (fun h23 => ?_) (fun h23 => ?_)
  · simp only [↓rA, rB, Tryz.results101, h23]
    have e : s = kwS[23]'(by decide) := of_decide_eq_true h23
    have m : s ∈ kwS := by rw [e]; exact List.getElem_mem _
    exact ret_done (fb (kwB_iff.2 m).symm)
  simp only [↓rA, rB, Nat.reduceEqDiff, h23]
  refine onCond_splitb (fun h24 => ?_) (fun h24 => ?_)
  · simp only [↓rA, rB, Tryz.results101, h24]
    have e : s = kwS[24]'(by decide) := of_decide_eq_true h24
    have m : s ∈ kwS := by rw [e]; exact List.getElem_mem _
    exact ret_done (fb (kwB_iff.2 m).symm)
  simp only [↓rA, rB, Nat.reduceEqDiff, h24]
  refine onCond_splitb (fun h25 => ?_) (fun h25 => ?_)
  · simp only [↓rA, rB, Tryz.results101, h25]
    have e : s = kwS[25]'(by decide) := of_decide_eq_true h25
    have m : s ∈ kwS := by rw [e]; exact List.getElem_mem _
    exact ret_done (fb (kwB_iff.2 m).symm)
  simp only [↓rA, rB, Nat.reduceEqDiff, h25]
  refine onCond_splitb (fun h26 => ?_) (fun h26 => ?_)
  · simp only [↓rA, rB, Tryz.results101, h26]
    have e : s = kwS[26]'(by decide) := of_decide_eq_true h26
    have m : s ∈ kwS := by rw [e]; exact List.getElem_mem _
    exact ret_done (fb (kwB_iff.2 m).symm)
  simp only [↓rA, rB, Nat.reduceEqDiff, h26]
  refine onCond_splitb (fun h27 => ?_) (fun h27 => ?_)
  · simp only [↓rA, rB, Tryz.results101, h27]
    have e : s = kwS[27]'(by decide) := of_decide_eq_true h27
    have m : s ∈ kwS := by rw [e]; exact List.getElem_mem _
    exact ret_done (fb (kwB_iff.2 m).symm)
  simp only [↓rA, rB, Nat.reduceEqDiff, h27]
  refine onCond_splitb (fun h28 => ?_) (fun h28 => ?_)
  · simp only [↓rA, rB, Tryz.results101, h28]
    have e : s = kwS[28]'(by decide) := of_decide_eq_true h28
    have m : s ∈ kwS := by rw [e]; exact List.getElem_mem _
    exact ret_done (fb (kwB_iff.2 m).symm)
  simp only [↓rA, rB, Nat.reduceEqDiff, h28]
  refine onCond_splitb (fun h29 => ?_) (fun h29 => ?_)
  · simp only [↓rA, rB, Tryz.results101, h29]
    have e : s = kwS[29]'(by decide) := of_decide_eq_true h29
    have m : s ∈ kwS := by rw [e]; exact List.getElem_mem _
    exact ret_done (fb (kwB_iff.2 m).symm)
  simp only [↓rA, rB, Nat.reduceEqDiff, h29]
  refine onCond_splitb (fun h30 => ?_) (fun h30 => ?_)
  · simp only [↓rA, rB, Tryz.results101, h30]
    have e : s = kwS[30]'(by decide) := of_decide_eq_true h30
    have m : s ∈ kwS := by rw [e]; exact List.getElem_mem _
    exact ret_done (fb (kwB_iff.2 m).symm)
  simp only [↓rA, rB, Nat.reduceEqDiff, h30]
  refine onCond_splitb (fun h31 => ?_) (fun h31 => ?_)
  · simp only [↓rA, rB, Tryz.results101, h31]
    have e : s = kwS[31]'(by decide) := of_decide_eq_true h31
    have m : s ∈ kwS := by rw [e]; exact List.getElem_mem _
    exact ret_done (fb (kwB_iff.2 m).symm)
  simp only [↓rA, rB, Nat.reduceEqDiff, h31]
  refine onCond_splitb (fun h32 => ?_) (fun h32 => ?_)
  · simp only [↓rA, rB, Tryz.results101, h32]
    have e : s = kwS[32]'(by decide) := of_decide_eq_true h32
    have m : s ∈ kwS := by rw [e]; exact List.getElem_mem _
    exact ret_done (fb (kwB_iff.2 m).symm)
  simp only [↓rA, rB, Nat.reduceEqDiff, h32]
  refine onCond_splitb (fun h33 => ?_) (fun h33 => ?_)
  · simp only [↓rA, rB, Tryz.results101, h33]
    have e : s = kwS[33]'(by decide) := of_decide_eq_true h33
    have m : s ∈ kwS := by rw [e]; exact List.getElem_mem _
    exact ret_done (fb (kwB_iff.2 m).symm)
  simp only [↓rA, rB, Tryz.results101, h33]
  refine ret_done (fb (kwB_f fun hm => ?_).symm)
  simp only [kwS, List.mem_cons, List.not_mem_nil, or_false] at hm
  rcases hm with e | e | e | e | e | e | e | e | e | e | e | e | e | e | e | e | e | e | e | e | e | e | e | e | e | e | e | e | e | e | e | e | e | e
  · exact of_decide_eq_false h0 e
  · exact of_decide_eq_false h1 e
  · exact of_decide_eq_false h2 e
  · exact of_decide_eq_false h3 e
  · exact of_decide_eq_false h4 e
  · exact of_decide_eq_false h5 e
  · exact of_decide_eq_false h6 e
  · exact of_decide_eq_false h7 e
  · exact of_decide_eq_false h8 e
  · exact of_decide_eq_false h9 e
  · exact of_decide_eq_false h10 e
  · exact of_decide_eq_false h11 e
  · exact of_decide_eq_false h12 e
  · exact of_decide_eq_false h13 e
  · exact of_decide_eq_false h14 e
  · exact of_decide_eq_false h15 e
  · exact of_decide_eq_false h16 e
  · exact of_decide_eq_false h17 e
  · exact of_decide_eq_false h18 e
  · exact of_decide_eq_false h19 e
  · exact of_decide_eq_false h20 e
  · exact of_decide_eq_false h21 e
  · exact of_decide_eq_false h22 e
  · exact of_decide_eq_false h23 e
  · exact of_decide_eq_false h24 e
  · exact of_decide_eq_false h25 e
  · exact of_decide_eq_false h26 e
  · exact of_decide_eq_false h27 e
  · exact of_decide_eq_false h28 e
  · exact of_decide_eq_false h29 e
  · exact of_decide_eq_false h30 e
  · exact of_decide_eq_false h31 e
  · exact of_decide_eq_false h32 e
  · exact of_decide_eq_false h33 e
def letB (c : UInt8) : Bool := decide ((97 : Int) ≤ c.toNat) && decide ((c.toNat : Int) ≤ 122)
def digB (c : UInt8) : Bool := decide ((48 : Int) ≤ c.toNat) && decide ((c.toNat : Int) ≤ 57)
set_option linter.defProp false in
def tbO71 := (aI (aI (aI Ty.sz4 Ty.by4) (aI Ty.ag4 (aI Ty.zr4 Ty.un4))) (aI (aI Ty.sz5 Ty.by5) (aI Ty.ag5 (aI Ty.zr5 Ty.un5))))
theorem letter_ok (c : UInt8) : OkP Tryz.prog 113 [.lit (.int .u8 c.toNat)] (vbool (letB c)) := by
  refine Ok.of_ex Ty.mixed Tryz.func113 rfl (by simp [Tryz.ntmps113]) (by kernel_rfl) fun F w0 I0 => ?_
  by_cases e : (97 : Int) ≤ c.toNat
  · simp only [↓rA, rB, Nat.reduceEqDiff, reduceCtorEq, Tryz.results113, e]
    exact ret_done (by simp [letB, e])
  · simp only [↓rA, rB, Nat.reduceEqDiff, reduceCtorEq, Tryz.results113, e]
    exact ret_done (by simp [letB, e])
set_option linter.defProp false in
def tbO72 := (aI (aI (aI Ty.sz4 Ty.by4) (aI Ty.ag4 (aI Ty.zr4 Ty.un4))) (aI (aI Ty.sz5 Ty.by5) (aI Ty.ag5 (aI Ty.zr5 Ty.un5))))
theorem digit_ok (c : UInt8) : OkP Tryz.prog 114 [.lit (.int .u8 c.toNat)] (vbool (digB c)) := by
  refine Ok.of_ex Ty.mixed Tryz.func114 rfl (by simp [Tryz.ntmps114]) (by kernel_rfl) fun F w0 I0 => ?_
  by_cases e : (48 : Int) ≤ c.toNat
  · simp only [↓rA, rB, Nat.reduceEqDiff, reduceCtorEq, Tryz.results114, e]
    exact ret_done (by simp [digB, e])
  · simp only [↓rA, rB, Nat.reduceEqDiff, reduceCtorEq, Tryz.results114, e]
    exact ret_done (by simp [digB, e])
theorem nameC_split (i : Nat) (c : UInt8) (hi : 0 < i) : nameC i c = (letB c || digB c || decide ((c.toNat : Int) = 95)) := by
  simp only [nameC, letB, digB, hi, decide_true, Bool.true_and, Bool.or_assoc]
theorem nameC_zero (c : UInt8) : nameC 0 c = letB c := by simp [nameC, letB]
set_option linter.defProp false in
def tbO73 := (aI (aI (aI (aI Ty.sz3 Ty.by3) (aI Ty.ag3 (aI Ty.zr3 Ty.un3))) (aI (aI Ty.sz4 (aI Ty.by4 Ty.ag4)) (aI Ty.zr4 (aI Ty.un4 Ty.sz5)))) (aI (aI (aI Ty.by5 Ty.ag5) (aI Ty.zr5 (aI Ty.un5 Ty.sz84))) (aI (aI Ty.by84 (aI Ty.ag84 Ty.zr84)) (aI Ty.un84 (aI Ty.cb113 Ty.cb114)))))
theorem wordR_ok (s : Str) (h0 : 0 < s.size) (h1 : s.size ≤ 24) : Ok Tryz.prog 100 [.list none 1 (byteRows s), vint 0] [] fun v bs rs => (∃ k : Nat, v = vint k ∧ ((k : Int) = s.size ↔ nameL 0 s.data.toList = true)) ∧ bs = [] ∧ rs = [] := by
  have hsl : s.data.toList.length = s.size := by simp
  have h0i : (0 : Int) < s.size := by omega
  have hl0 : 0 < s.data.toList.length := by omega
  have ht0 := nameL_take hl0
  have hb0 := nameL_fail hl0
  rw [nameC_zero] at ht0 hb0
  refine Ok.of_ex Ty.mixed Tryz.func100 rfl (by simp [Tryz.ntmps100]) (by kernel_rfl) fun F w0 I0 => ?_
  simp only [↓rA, rB, Int.reduceToNat, Nat.reduceEqDiff, reduceCtorEq, tbO73, List.length_map, hsl, h0i, getD_map _ _ _ hl0]
  refine OkF_of _ (letter_ok _) ?_
  cases hc0 : letB s.data.toList[0]
  · simp only [↓rA, rB, Tryz.results100]
    exact ⟨_, [], [], Le.refl _, List.nil_sublist _, List.nil_sublist _, ⟨0, rfl, ⟨fun h => by omega, fun h => by rw [hb0 hc0] at h; cases h⟩⟩, rfl, rfl⟩
  · simp only [↓rA, rB, Tryz.results100]
    refine EX_while Ty.mixed (by kernel_rfl) (fun n : Nat => s.size - n) (fun n S => 1 ≤ n ∧ n ≤ s.size ∧ nameL 0 (s.data.toList.take n) = true ∧ S.boxes = [] ∧ S.rows = [] ∧ S.σ 0 = .list none 1 (byteRows s) ∧ S.σ 1 = vint 0 ∧ S.σ 5 = vint n) 1 ⟨0, ?_⟩ (fun n S ⟨hn1, hn2, hf, gb, gr, g0, g1, g5⟩ => ?_)
    · simp only [rB, Nat.reduceEqDiff, reduceCtorEq]
      exact ⟨h0, by rw [ht0, hc0]; rfl, rfl⟩
    · have w0 : IntKind.i64.wrap (0 + (n : Int)) = (n : Int) := by rw [Int.zero_add]; exact wrap_id (by omega) (by omega)
      by_cases hlt : n < s.size
      · have hltl : n < s.data.toList.length := by omega
        have ht := nameL_take hltl
        have hb := nameL_fail hltl
        rw [nameC_split _ _ (by omega)] at ht hb
        have hwi := wrap_succ (i := n) (N := s.size) hlt (by omega)
        simp only [↓rA, rB, Nat.reduceEqDiff, reduceCtorEq, tbO73, gb, g0, g1, g5, List.length_map, hsl, Int.ofNat_lt, hlt, w0, getD_map _ _ _ hltl]
        refine OkF_of _ (letter_ok _) ?_
        cases e1 : letB s.data.toList[n]
        · simp only [↓rA, rB, Nat.reduceEqDiff, reduceCtorEq, tbO73, gr, g0, g1, g5, List.length_map, hsl, Int.ofNat_lt, hlt, w0, getD_map _ _ _ hltl]
          refine OkF_of _ (digit_ok _) ?_
          cases e2 : digB s.data.toList[n]
          · simp only [↓rA, rB, Nat.reduceEqDiff, reduceCtorEq, tbO73, gr, g0, g1, g5, List.length_map, hsl, Int.ofNat_lt, hlt, w0, getD_map _ _ _ hltl]
            refine onCond_splitb (fun hc => ?_) (fun hc => ?_)
            · simp only [↓rA, rB, Nat.reduceEqDiff, reduceCtorEq, gr, g0, g1, g5, hwi]
              rw [e1, e2, hc] at ht
              exact ⟨n + 1, by omega, 0, by omega, by omega, by rw [ht, hf]; rfl, rfl⟩
            · simp only [↓rA, rB, Nat.reduceEqDiff, gr, g5]
              rw [e1, e2, hc] at hb
              exact ⟨_, [], [], Le.refl _, List.nil_sublist _, List.nil_sublist _, ⟨n, rfl, ⟨fun h => by omega, fun h => by rw [hb rfl] at h; cases h⟩⟩, rfl, rfl⟩
          · simp only [↓rA, rB, Nat.reduceEqDiff, reduceCtorEq, gr, g0, g1, g5, List.length_map, hsl, getD_map _ _ _ hltl, hwi]
            rw [e1, e2] at ht
            exact ⟨n + 1, by omega, 0, by omega, by omega, by rw [ht, hf]; rfl, rfl⟩
        · simp only [↓rA, rB, Nat.reduceEqDiff, reduceCtorEq, gr, g0, g1, g5, List.length_map, hsl, getD_map _ _ _ hltl, hwi]
          rw [e1] at ht
          exact ⟨n + 1, by omega, 0, by omega, by omega, by rw [ht, hf]; rfl, rfl⟩
      · have e : n = s.size := by omega
        simp only [↓rA, rB, Nat.reduceEqDiff, reduceCtorEq, tbO73, gb, gr, g0, g1, g5, List.length_map, hsl, Int.ofNat_lt, hlt, w0]
        rw [List.take_of_length_le (by omega)] at hf
        exact ⟨_, [], [], Le.refl _, List.nil_sublist _, List.nil_sublist _, ⟨n, rfl, ⟨fun _ => hf, fun _ => by omega⟩⟩, rfl, rfl⟩
set_option linter.defProp false in
def tbO74 := (aI (aI (aI (aI Ty.sz3 (aI Ty.by3 Ty.ag3)) (aI Ty.zr3 (aI Ty.un3 Ty.sz4))) (aI (aI Ty.by4 (aI Ty.ag4 Ty.zr4)) (aI (aI Ty.un4 Ty.sz5) (aI Ty.by5 Ty.ag5)))) (aI (aI (aI Ty.zr5 (aI Ty.un5 Ty.sz9)) (aI (aI Ty.by9 Ty.ag9) (aI Ty.zr9 Ty.un9))) (aI (aI Ty.sz84 (aI Ty.by84 Ty.ag84)) (aI (aI Ty.zr84 Ty.un84) (aI Ty.cb100 Ty.cb101)))))
theorem nameR_ok (s : Str) : OkP Tryz.prog 80 [vstr s] (vbool (nameB s)) := by
  have fb : ∀ {a b : Bool}, a = b → V.lit (.bool a) = vbool b := fun h => by rw [h]
  refine Ok.of_ex Ty.mixed Tryz.func80 rfl (by simp [Tryz.ntmps80]) (by kernel_rfl) fun F w0 I0 => ?_
  by_cases e0 : s = es0
  · subst e0
    simp only [↓rA, rB, Nat.reduceEqDiff, reduceCtorEq, Tryz.results80]
    exact ret_done (fb (by rw [nameB, if_pos rfl]))
  by_cases e1 : 24 < s.size
  · have e1' : ¬ (s.size : Int) ≤ 24 := by omega
    simp only [↓rA, rB, Nat.reduceEqDiff, reduceCtorEq, tbO74, Tryz.results80, e0, e1']
    exact ret_done (fb (by rw [nameB, if_neg e0, if_pos e1]))
  have e1' : (s.size : Int) ≤ 24 := by omega
  have hpos : 0 < s.size := Nat.pos_of_ne_zero fun h => e0 (str_ext (by
    have : s.data.toList.length = 0 := by simpa using h
    rw [List.length_eq_zero_iff.1 this]))
  simp only [↓rA, rB, Nat.reduceEqDiff, reduceCtorEq, tbO74, e0, e1']
  refine OkF_with [] [] (List.Perm.refl _) (wordR_ok s hpos (by omega)) ?_
  rintro v bs rs ⟨⟨k, rfl, hk⟩, rfl, rfl⟩
  have hkw := keywordR_ok s
  rw [← keyB_iff] at hkw
  by_cases ek : (k : Int) = s.size
  · simp only [↓rA, rB, Nat.reduceEqDiff, reduceCtorEq, tbO74, ek]
    refine OkF_of _ hkw ?_
    cases e2 : keyB s
    · simp only [↓rA, rB, Nat.reduceEqDiff, Tryz.results80]
      exact ret_done (fb (by rw [nameB, if_neg e0, if_neg e1, if_neg (by rw [e2]; decide), hk.1 ek]))
    · simp only [↓rA, rB, Nat.reduceEqDiff, Tryz.results80]
      exact ret_done (fb (by rw [nameB, if_neg e0, if_neg e1, if_pos e2]))
  · simp only [↓rA, rB, Nat.reduceEqDiff, reduceCtorEq, tbO74, Tryz.results80, ek]
    refine ret_done (fb ?_)
    rw [nameB, if_neg e0, if_neg e1]
    have : nameL 0 s.data.toList = false := by
      cases h : nameL 0 s.data.toList
      · rfl
      · exact absurd (hk.2 h) ek
    rw [this]
    split <;> rfl
end Go.Proofs.YtphkmlogjgeipaaGreatDoor

/- Contracts of the reference's checks, part b: values, units, types. -/
set_option linter.unusedSimpArgs false
set_option maxRecDepth 100000
namespace Go.Proofs.YtphkmlogjgeipaaGreatDoor
open Go.VL Go.Ar Go.Lo Go.Proofs.YtphkmlogjgeipaaGreatDoor
set_option linter.defProp false in
def tbO80 := (aI (aI (aI (aI Ty.sz3 Ty.by3) (aI Ty.ag3 (aI Ty.zr3 Ty.un3))) (aI (aI Ty.sz4 Ty.by4) (aI Ty.ag4 (aI Ty.zr4 Ty.un4)))) (aI (aI (aI Ty.sz5 Ty.by5) (aI Ty.ag5 (aI Ty.zr5 Ty.un5))) (aI (aI Ty.sz9 Ty.by9) (aI Ty.ag9 (aI Ty.zr9 Ty.un9)))))
theorem printable32_ok (s : Str) (hs : s.size ≤ 64) : OkP Tryz.prog 123 [vstr s, .lit (.int .u8 32)] (vbool (s.data.toList.all (okCh 32))) := by
  have fb : ∀ {a b : Bool}, a = b → V.lit (.bool a) = vbool b := fun h => by rw [h]
  refine Ok.of_ex Ty.mixed Tryz.func123 rfl (by simp [Tryz.ntmps123]) (by kernel_rfl) fun F w0 I0 => ?_
  simp only [↓rA, rB, Tryz.results123]
  refine EX_for Ty.mixed (by kernel_rfl) s.size (fun i S => (s.data.toList.take i).all (okCh 32) = true ∧ S.boxes = [] ∧ S.rows = [] ∧ S.σ 0 = vstr s ∧ S.σ 1 = .lit (.int .u8 32) ∧ S.σ 5 = vint i) ⟨0, ?_⟩ (fun i S hi ⟨hf, gb, gr, g0, g1, g5⟩ => ?_) (fun S ⟨hf, gb, gr, g0, g1, g5⟩ => ?_)
  · simp only [rB, Nat.reduceEqDiff, reduceCtorEq]
    try exact rfl
  · have hl : i < s.data.toList.length := by simpa using hi
    have ht := all_take (p := okCh 32) hl
    have hb := all_fail (p := okCh 32) hl
    rw [← getD_str s i hi] at ht hb
    generalize hcd : s.data.toList.getD i 0 = c at ht hb
    have hwi := wrap_succ (i := i) (N := s.size) hi (by omega)
    have cs : (c.toNat : Int) < 32 ∨ (¬ (c.toNat : Int) < 32 ∧ (126 : Int) < c.toNat) ∨ (¬ (c.toNat : Int) < 32 ∧ ¬ (126 : Int) < c.toNat ∧ (c.toNat : Int) = 34) ∨ (¬ (c.toNat : Int) < 32 ∧ ¬ (126 : Int) < c.toNat ∧ ¬ (c.toNat : Int) = 34 ∧ (c.toNat : Int) = 92) ∨ (¬ (c.toNat : Int) < 32 ∧ ¬ (126 : Int) < c.toNat ∧ ¬ (c.toNat : Int) = 34 ∧ ¬ (c.toNat : Int) = 92) := by omega
    rcases cs with cs | cs | cs | cs | cs <;>
    first
    | (have hc : okCh 32 c = false := by simp [okCh, cs]
       simp only [↓rA, rB, Int.reduceEq, Int.reduceLT, Nat.reduceEqDiff, reduceCtorEq, tbO80, gb, gr, g0, g1, g5, Int.ofNat_lt, hi, hcd, cs]
       exact ret_done (fb (by rw [hb hc])))
    | (have hc : okCh 32 c = true := by simp [okCh, cs]
       simp only [↓rA, rB, Nat.reduceEqDiff, reduceCtorEq, tbO80, gb, gr, g0, g1, g5, Int.ofNat_lt, hi, hcd, cs, hwi]
       exact ⟨0, by rw [ht, hf, hc]; rfl⟩)
  · simp only [↓rA, rB, Nat.reduceEqDiff, reduceCtorEq, tbO80, gb, gr, g0, g5, Int.ofNat_lt, Nat.lt_irrefl]
    rw [List.take_of_length_le (by simp)] at hf
    exact ret_done (fb hf.symm)
set_option linter.defProp false in
def tbO81 := (aI (aI (aI (aI Ty.sz3 Ty.by3) (aI Ty.ag3 (aI Ty.zr3 Ty.un3))) (aI (aI Ty.sz4 Ty.by4) (aI Ty.ag4 (aI Ty.zr4 Ty.un4)))) (aI (aI (aI Ty.sz5 Ty.by5) (aI Ty.ag5 (aI Ty.zr5 Ty.un5))) (aI (aI Ty.sz9 Ty.by9) (aI Ty.ag9 (aI Ty.zr9 Ty.un9)))))
theorem printable33_ok (s : Str) (hs : s.size ≤ 64) : OkP Tryz.prog 123 [vstr s, .lit (.int .u8 33)] (vbool (s.data.toList.all (okCh 33))) := by
  have fb : ∀ {a b : Bool}, a = b → V.lit (.bool a) = vbool b := fun h => by rw [h]
  refine Ok.of_ex Ty.mixed Tryz.func123 rfl (by simp [Tryz.ntmps123]) (by kernel_rfl) fun F w0 I0 => ?_
  simp only [↓rA, rB, Tryz.results123]
  refine EX_for Ty.mixed (by kernel_rfl) s.size (fun i S => (s.data.toList.take i).all (okCh 33) = true ∧ S.boxes = [] ∧ S.rows = [] ∧ S.σ 0 = vstr s ∧ S.σ 1 = .lit (.int .u8 33) ∧ S.σ 5 = vint i) ⟨0, ?_⟩ (fun i S hi ⟨hf, gb, gr, g0, g1, g5⟩ => ?_) (fun S ⟨hf, gb, gr, g0, g1, g5⟩ => ?_)
  · simp only [rB, Nat.reduceEqDiff, reduceCtorEq]
    try exact rfl
  · have hl : i < s.data.toList.length := by simpa using hi
    have ht := all_take (p := okCh 33) hl
    have hb := all_fail (p := okCh 33) hl
    rw [← getD_str s i hi] at ht hb
    generalize hcd : s.data.toList.getD i 0 = c at ht hb
    have hwi := wrap_succ (i := i) (N := s.size) hi (by omega)
    have cs : (c.toNat : Int) < 33 ∨ (¬ (c.toNat : Int) < 33 ∧ (126 : Int) < c.toNat) ∨ (¬ (c.toNat : Int) < 33 ∧ ¬ (126 : Int) < c.toNat ∧ (c.toNat : Int) = 34) ∨ (¬ (c.toNat : Int) < 33 ∧ ¬ (126 : Int) < c.toNat ∧ ¬ (c.toNat : Int) = 34 ∧ (c.toNat : Int) = 92) ∨ (¬ (c.toNat : Int) < 33 ∧ ¬ (126 : Int) < c.toNat ∧ ¬ (c.toNat : Int) = 34 ∧ ¬ (c.toNat : Int) = 92) := by omega
    rcases cs with cs | cs | cs | cs | cs <;>
    first
    | (have hc : okCh 33 c = false := by simp [okCh, cs]
       simp only [↓rA, rB, Int.reduceEq, Int.reduceLT, Nat.reduceEqDiff, reduceCtorEq, tbO81, gb, gr, g0, g1, g5, Int.ofNat_lt, hi, hcd, cs]
       exact ret_done (fb (by rw [hb hc])))
    | (have hc : okCh 33 c = true := by simp [okCh, cs]
       simp only [↓rA, rB, Nat.reduceEqDiff, reduceCtorEq, tbO81, gb, gr, g0, g1, g5, Int.ofNat_lt, hi, hcd, cs, hwi]
       exact ⟨0, by rw [ht, hf, hc]; rfl⟩)
  · simp only [↓rA, rB, Nat.reduceEqDiff, reduceCtorEq, tbO81, gb, gr, g0, g5, Int.ofNat_lt, Nat.lt_irrefl]
    rw [List.take_of_length_le (by simp)] at hf
    exact ret_done (fb hf.symm)
set_option linter.defProp false in
def tbO82 := (aI (aI (aI (aI Ty.sz3 Ty.by3) (aI Ty.ag3 (aI Ty.zr3 Ty.un3))) (aI (aI Ty.sz4 Ty.by4) (aI Ty.ag4 (aI Ty.zr4 Ty.un4)))) (aI (aI (aI Ty.sz5 Ty.by5) (aI Ty.ag5 (aI Ty.zr5 Ty.un5))) (aI (aI Ty.sz9 (aI Ty.by9 Ty.ag9)) (aI Ty.zr9 (aI Ty.un9 Ty.cb123)))))
theorem text_ok (s : Str) : OkP Tryz.prog 117 [vstr s] (vbool (decide (s.size ≤ 64) && s.data.toList.all (okCh 32))) := by
  have fb : ∀ {a b : Bool}, a = b → V.lit (.bool a) = vbool b := fun h => by rw [h]
  refine Ok.of_ex Ty.mixed Tryz.func117 rfl (by simp [Tryz.ntmps117]) (by kernel_rfl) fun F w0 I0 => ?_
  by_cases h : s.size ≤ 64
  · have h' : (s.size : Int) ≤ 64 := by omega
    simp only [↓rA, rB, Nat.reduceEqDiff, reduceCtorEq, tbO82, h']
    refine OkF_of _ (printable32_ok s h) ?_
    simp only [↓rA, rB, Nat.reduceEqDiff, Tryz.results117]
    exact ret_done (fb (by simp [h]))
  · have h' : ¬ (s.size : Int) ≤ 64 := by omega
    simp only [↓rA, rB, Nat.reduceEqDiff, reduceCtorEq, tbO82, Tryz.results117, h']
    exact ret_done (fb (by simp [h]))
set_option linter.defProp false in
def tbO83 := (aI (aI (aI (aI Ty.sz3 Ty.by3) (aI Ty.ag3 (aI Ty.zr3 Ty.un3))) (aI (aI Ty.sz4 Ty.by4) (aI Ty.ag4 (aI Ty.zr4 Ty.un4)))) (aI (aI (aI Ty.sz5 Ty.by5) (aI Ty.ag5 (aI Ty.zr5 Ty.un5))) (aI (aI Ty.sz9 (aI Ty.by9 Ty.ag9)) (aI Ty.zr9 (aI Ty.un9 Ty.cb123)))))
theorem key_ok (s : Str) : OkP Tryz.prog 118 [vstr s] (vbool (!decide (s = es0) && (decide (s.size ≤ 32) && s.data.toList.all (okCh 33)))) := by
  have fb : ∀ {a b : Bool}, a = b → V.lit (.bool a) = vbool b := fun h => by rw [h]
  refine Ok.of_ex Ty.mixed Tryz.func118 rfl (by simp [Tryz.ntmps118]) (by kernel_rfl) fun F w0 I0 => ?_
  by_cases e : s = es0
  · subst e
    simp only [↓rA, rB, Nat.reduceEqDiff, reduceCtorEq, Tryz.results118]
    exact ret_done (fb (by simp))
  by_cases h : s.size ≤ 32
  · have h' : (s.size : Int) ≤ 32 := by omega
    simp only [↓rA, rB, Nat.reduceEqDiff, reduceCtorEq, tbO83, e, h']
    refine OkF_of _ (printable33_ok s (by omega)) ?_
    simp only [↓rA, rB, Nat.reduceEqDiff, Tryz.results118]
    exact ret_done (fb (by simp [e, h]))
  · have h' : ¬ (s.size : Int) ≤ 32 := by omega
    simp only [↓rA, rB, Nat.reduceEqDiff, reduceCtorEq, tbO83, Tryz.results118, e, h']
    exact ret_done (fb (by simp [h]))
def rngB (n : Int) : Bool := decide (-1152921504606846976 ≤ n) && decide (n ≤ 1152921504606846976)
set_option linter.defProp false in
def tbO84 := (aI (aI (aI Ty.sz3 Ty.by3) (aI Ty.ag3 (aI Ty.zr3 Ty.un3))) (aI (aI Ty.sz4 Ty.by4) (aI Ty.ag4 (aI Ty.zr4 Ty.un4))))
theorem inRange_ok (n : Int) : OkP Tryz.prog 116 [vint n] (vbool (rngB n)) := by
  have fb : ∀ {a b : Bool}, a = b → V.lit (.bool a) = vbool b := fun h => by rw [h]
  refine Ok.of_ex Ty.mixed Tryz.func116 rfl (by simp [Tryz.ntmps116]) (by kernel_rfl) fun F w0 I0 => ?_
  by_cases h : (-1152921504606846976 : Int) ≤ n
  · simp only [↓rA, rB, Nat.reduceEqDiff, reduceCtorEq, Tryz.results116, h]
    exact ret_done (fb (by simp [rngB, h]))
  · simp only [↓rA, rB, Nat.reduceEqDiff, reduceCtorEq, Tryz.results116, h]
    exact ret_done (fb (by simp [rngB, h]))
/-- What a kind does not use is zero. -/
def fldB (v : Val) : Bool :=
  if v.kind = 0 then decide (v.n = 0) && decide (v.s = es0) else if v.kind = 1 then (decide (v.n = 0) || decide (v.n = 1)) && decide (v.s = es0)
  else if v.kind = 2 ∨ v.kind = 3 then decide (v.s = es0) else if v.kind = 4 ∨ v.kind = 5 then decide (v.n = 0) else false
set_option linter.defProp false in
def tbO85 := (aI (aI (aI (aI Ty.sz3 (aI Ty.by3 Ty.ag3)) (aI Ty.zr3 (aI Ty.un3 Ty.sz4))) (aI (aI Ty.by4 (aI Ty.ag4 Ty.zr4)) (aI (aI Ty.un4 Ty.sz9) (aI Ty.by9 Ty.ag9)))) (aI (aI (aI Ty.zr9 (aI Ty.un9 Ty.sz28)) (aI Ty.by28 (aI Ty.ag28 Ty.zr28))) (aI (aI Ty.fl28_0 (aI Ty.pl28_0 Ty.fl28_1)) (aI (aI Ty.pl28_1 Ty.fl28_2) (aI Ty.pl28_2 Ty.eq28)))))
theorem fields_ok (v : Val) : OkP Tryz.prog 115 [.agg (cVal v)] (vbool (fldB v)) := by
  have fb : ∀ {a b : Bool}, a = b → V.lit (.bool a) = vbool b := fun h => by rw [h]
  obtain ⟨k, n, s⟩ := v
  refine Ok.of_ex Ty.mixed Tryz.func115 rfl (by simp [Tryz.ntmps115]) (by kernel_rfl) fun F w0 I0 => ?_
  simp only [↓rA, rB]
  refine fun b1 h1 => ?_; replace h1 := newb h1; try simp only [Nb] at h1
  by_cases k0 : k = 0
  · subst k0
    by_cases e : n = 0
    · simp only [↓rA, rB, Nat.reduceAdd, Nat.reduceEqDiff, tbO85, Tryz.results115, e]
      exact ret_done (fb (by simp [fldB]))
    · simp only [↓rA, rB, Nat.reduceAdd, Nat.reduceEqDiff, tbO85, Tryz.results115, e]
      exact ret_done (fb (by simp [fldB, e]))
  by_cases k1 : k = 1
  · subst k1
    by_cases e : n = 0
    · simp only [↓rA, rB, Int.reduceEq, Nat.reduceAdd, Nat.reduceEqDiff, tbO85, Tryz.results115, e]
      exact ret_done (fb (by simp [fldB]))
    · by_cases e1 : n = 1
      · simp only [↓rA, rB, Int.reduceEq, Nat.reduceAdd, Nat.reduceEqDiff, tbO85, Tryz.results115, e1]
        exact ret_done (fb (by simp [fldB]))
      · simp only [↓rA, rB, Int.reduceEq, Nat.reduceAdd, Nat.reduceEqDiff, tbO85, Tryz.results115, e, e1]
        exact ret_done (fb (by simp [fldB, e, e1]))
  by_cases k2 : k = 2
  · subst k2
    simp only [↓rA, rB, Int.reduceEq, Nat.reduceAdd, Nat.reduceEqDiff, tbO85, Tryz.results115]
    exact ret_done (fb (by simp [fldB]))
  by_cases k3 : k = 3
  · subst k3
    simp only [↓rA, rB, Int.reduceEq, Nat.reduceAdd, Nat.reduceEqDiff, tbO85, Tryz.results115]
    exact ret_done (fb (by simp [fldB]))
  by_cases k4 : k = 4
  · subst k4
    simp only [↓rA, rB, Int.reduceEq, Nat.reduceAdd, Nat.reduceEqDiff, tbO85, Tryz.results115]
    exact ret_done (fb (by simp [fldB]))
  by_cases k5 : k = 5
  · subst k5
    simp only [↓rA, rB, Int.reduceEq, Nat.reduceAdd, Nat.reduceEqDiff, tbO85, Tryz.results115]
    exact ret_done (fb (by simp [fldB]))
  simp only [↓rA, rB, Nat.reduceAdd, Nat.reduceEqDiff, tbO85, Tryz.results115, k0, k1, k2, k3, k4, k5]
  exact ret_done (fb (by simp [fldB, k0, k1, k2, k3, k4, k5]))
theorem valC_f {v : Val} (h : fldB v = false) : valC v = 1 := by
  unfold fldB at h
  unfold valC
  by_cases k0 : v.kind = 0
  · rw [if_pos k0] at h
    rw [if_neg (by omega), if_neg (by omega)]
    by_cases hs : v.s = es0
    · have hn : ¬ v.n = 0 := by intro e; rw [decide_eq_true e, decide_eq_true hs] at h; cases h
      rw [if_neg (fun h => h.2.2 hs), if_pos ⟨by omega, by omega, hn, .inl (by omega)⟩]
    · rw [if_pos ⟨by omega, by omega, hs⟩]
  by_cases k1 : v.kind = 1
  · rw [if_neg k0, if_pos k1] at h
    rw [if_neg (by omega), if_neg (by omega)]
    by_cases hs : v.s = es0
    · rw [decide_eq_true hs, Bool.and_true, Bool.or_eq_false_iff] at h
      rw [if_neg (fun h => h.2.2 hs), if_pos ⟨by omega, by omega, of_decide_eq_false h.1, .inr (of_decide_eq_false h.2)⟩]
    · rw [if_pos ⟨by omega, by omega, hs⟩]
  by_cases k2 : v.kind = 2 ∨ v.kind = 3
  · rw [if_neg k0, if_neg k1, if_pos k2] at h
    rw [if_neg (by omega), if_neg (by omega), if_pos ⟨by omega, by omega, of_decide_eq_false h⟩]
  by_cases k4 : v.kind = 4 ∨ v.kind = 5
  · rw [if_neg k0, if_neg k1, if_neg k2, if_pos k4] at h
    rw [if_neg (by omega), if_neg (by omega), if_neg (by omega), if_pos ⟨by omega, by omega, of_decide_eq_false h, .inl (by omega)⟩]
  by_cases hk : v.kind < 0
  · rw [if_pos hk]
  · rw [if_neg hk, if_pos (by omega)]
theorem valC_t {v : Val} (h : fldB v = true) : valC v = if rngB v.n = false then 2 else if v.kind = 4 then (if 64 < v.s.size then 2 else if v.s.data.toList.all (okCh 32) = true then 0 else 3)
    else if v.kind = 5 then (if 32 < v.s.size then 2 else if v.s = es0 then 3 else if v.s.data.toList.all (okCh 33) = true then 0 else 3) else 0 := by
  have hr : rngB v.n = false ↔ (v.n < -1152921504606846976 ∨ 1152921504606846976 < v.n) := by
    unfold rngB
    rw [Bool.and_eq_false_iff, decide_eq_false_iff_not, decide_eq_false_iff_not]
    omega
  have hk : v.kind = 0 ∨ v.kind = 1 ∨ v.kind = 2 ∨ v.kind = 3 ∨ v.kind = 4 ∨ v.kind = 5 := by
    unfold fldB at h
    by_cases a : v.kind = 0
    · exact .inl a
    by_cases b : v.kind = 1
    · exact .inr (.inl b)
    rw [if_neg a, if_neg b] at h
    by_cases c : v.kind = 2 ∨ v.kind = 3
    · omega
    by_cases d : v.kind = 4 ∨ v.kind = 5
    · omega
    rw [if_neg c, if_neg d] at h
    cases h
  have h3 : ¬ (¬ v.kind = 4 ∧ ¬ v.kind = 5 ∧ ¬ v.s = es0) := by
    rintro ⟨a, b, c⟩
    unfold fldB at h
    rw [decide_eq_false c] at h
    rcases hk with e | e | e | e | e | e <;> simp [e] at h a b
  have h4 : ¬ (¬ v.kind = 2 ∧ ¬ v.kind = 3 ∧ ¬ v.n = 0 ∧ (¬ v.kind = 1 ∨ ¬ v.n = 1)) := by
    rintro ⟨a, b, c, d⟩
    unfold fldB at h
    rw [decide_eq_false c] at h
    rcases hk with e | e | e | e | e | e <;> simp [e] at h a b d
    exact d h.1
  unfold valC
  rw [if_neg (by omega), if_neg (by omega), if_neg h3, if_neg h4]
  by_cases r : rngB v.n = false
  · rw [if_pos r]
    rcases hr.1 r with r | r
    · rw [if_pos r]
    · split
      · rfl
      · first | rfl | rw [if_pos r]
  · have r' := fun h => r (hr.2 h)
    rw [if_neg r, if_neg (fun h => r' (.inl h)), if_neg (fun h => r' (.inr h))]
    by_cases k4 : v.kind = 4
    · rw [if_neg (fun h => h.1 k4), if_neg (by omega), if_pos k4]
    · by_cases k5 : v.kind = 5
      · rw [if_neg (fun h => h.2 k5), if_pos k5, if_neg k4, if_pos k5]
      · rw [if_pos ⟨k4, k5⟩, if_neg k4, if_neg k5]
set_option linter.defProp false in
def tbO86 := (aI (aI (aI (aI (aI Ty.sz3 Ty.by3) (aI Ty.ag3 Ty.zr3)) (aI (aI Ty.un3 Ty.sz4) (aI Ty.by4 Ty.ag4))) (aI (aI (aI Ty.zr4 Ty.un4) (aI Ty.sz9 Ty.by9)) (aI (aI Ty.ag9 Ty.zr9) (aI Ty.un9 (aI Ty.sz28 Ty.by28))))) (aI (aI (aI (aI Ty.ag28 Ty.zr28) (aI Ty.fl28_0 Ty.pl28_0)) (aI (aI Ty.fl28_1 Ty.pl28_1) (aI Ty.fl28_2 (aI Ty.pl28_2 Ty.sz35)))) (aI (aI (aI Ty.by35 Ty.ag35) (aI Ty.zr35 Ty.un35)) (aI (aI Ty.eq28 Ty.cb115) (aI Ty.cb116 (aI Ty.cb117 Ty.cb118))))))
theorem valR_ok (v : Val) : OkP Tryz.prog 102 [.agg (cVal v)] (vint (valC v)) := by
  have fi : ∀ {a b : Int}, a = b → V.lit (.int .i64 a) = vint b := fun h => by rw [h]
  have hf := fields_ok v
  obtain ⟨k, n, s⟩ := v
  refine Ok.of_ex Ty.mixed Tryz.func102 rfl (by simp [Tryz.ntmps102]) (by kernel_rfl) fun F w0 I0 => ?_
  simp only [↓rA, rB]
  refine fun b1 h1 => ?_; replace h1 := newb h1; try simp only [Nb] at h1
  simp only [↓rA, rB, Nat.reduceAdd, Nat.reduceEqDiff, tbO86]
  refine OkF_of _ hf ?_
  cases e : fldB ⟨k, n, s⟩
  · simp only [↓rA, rB, Tryz.results102]
    exact ret_done (fi (valC_f e).symm)
  rw [valC_t e]
  simp only [↓rA, rB, Nat.reduceAdd, Nat.reduceEqDiff, tbO86]
  refine OkF_of _ (inRange_ok n) ?_
  cases r : rngB n
  · simp only [↓rA, rB, Nat.reduceEqDiff, Tryz.results102]
    exact ret_done rfl
  by_cases k4 : k = 4
  · subst k4
    by_cases z : 64 < s.size
    · have z' : (64 : Int) < s.size := by omega
      simp only [↓rA, rB, Int.reduceEq, Nat.reduceAdd, Nat.reduceEqDiff, reduceCtorEq, tbO86, Tryz.results102, z']
      exact ret_done (fi (by simp [z]))
    · have z' : ¬ (64 : Int) < s.size := by omega
      simp only [↓rA, rB, Int.reduceEq, Nat.reduceAdd, Nat.reduceEqDiff, tbO86, z']
      refine OkF_of _ (text_ok s) ?_
      have hz : decide (s.size ≤ 64) = true := decide_eq_true (by omega)
      cases q : s.data.toList.all (okCh 32)
      · simp only [↓rA, rB, Int.reduceEq, Nat.reduceEqDiff, reduceCtorEq, Tryz.results102, hz]
        exact ret_done (fi (by simp [z]))
      · simp only [↓rA, rB, Int.reduceEq, Nat.reduceAdd, Nat.reduceEqDiff, reduceCtorEq, tbO86, Tryz.results102, hz]
        exact ret_done (fi (by simp [z]))
  by_cases k5 : k = 5
  · subst k5
    by_cases z : 32 < s.size
    · have z' : (32 : Int) < s.size := by omega
      simp only [↓rA, rB, Int.reduceEq, Nat.reduceAdd, Nat.reduceEqDiff, reduceCtorEq, tbO86, Tryz.results102, z']
      exact ret_done (fi (by simp [z]))
    · have z' : ¬ (32 : Int) < s.size := by omega
      simp only [↓rA, rB, Int.reduceEq, Nat.reduceAdd, Nat.reduceEqDiff, tbO86, z']
      refine OkF_of _ (key_ok s) ?_
      have hz : decide (s.size ≤ 32) = true := decide_eq_true (by omega)
      by_cases hs : s = es0
      · simp only [↓rA, rB, Int.reduceEq, Nat.reduceEqDiff, reduceCtorEq, Tryz.results102, hs]
        exact ret_done (fi (by simp []; decide))
      cases q : s.data.toList.all (okCh 33)
      · simp only [↓rA, rB, Int.reduceEq, Nat.reduceEqDiff, reduceCtorEq, Tryz.results102, hz, hs]
        exact ret_done (fi (by simp [z]))
      · simp only [↓rA, rB, Int.reduceEq, Nat.reduceEqDiff, reduceCtorEq, Tryz.results102, hz, hs]
        exact ret_done (fi (by simp [z]))
  simp only [↓rA, rB, Nat.reduceAdd, Nat.reduceEqDiff, reduceCtorEq, tbO86, Tryz.results102, k4, k5]
  exact ret_done (fi (by simp []))
end Go.Proofs.YtphkmlogjgeipaaGreatDoor

/- Contracts of the reference's checks, part c: units, types. -/
set_option linter.unusedSimpArgs false
set_option maxRecDepth 100000
namespace Go.Proofs.YtphkmlogjgeipaaGreatDoor
open Go.VL Go.Ar Go.Lo Go.Proofs.YtphkmlogjgeipaaGreatDoor
set_option linter.defProp false in
def tbO90 := (aI (aI (aI Ty.sz3 Ty.by3) (aI Ty.ag3 (aI Ty.zr3 Ty.un3))) (aI (aI Ty.sz4 Ty.by4) (aI Ty.ag4 (aI Ty.zr4 Ty.un4))))
theorem far_ok (n : Int) : OkP Tryz.prog 125 [vint n] (vbool (outB n 8)) := by
  have fb : ∀ {a b : Bool}, a = b → V.lit (.bool a) = vbool b := fun h => by rw [h]
  refine Ok.of_ex Ty.mixed Tryz.func125 rfl (by simp [Tryz.ntmps125]) (by kernel_rfl) fun F w0 I0 => ?_
  by_cases h : (8 : Int) < n
  · simp only [↓rA, rB, Nat.reduceEqDiff, reduceCtorEq, Tryz.results125, h]
    exact ret_done (fb (by simp [outB, h]))
  · simp only [↓rA, rB, Nat.reduceEqDiff, reduceCtorEq, Tryz.results125, h]
    exact ret_done (fb (by simp [outB, h]))
set_option linter.defProp false in
def tbO91 := (aI (aI (aI (aI Ty.sz3 Ty.by3) (aI Ty.ag3 (aI Ty.zr3 Ty.un3))) (aI (aI Ty.sz4 Ty.by4) (aI Ty.ag4 (aI Ty.zr4 Ty.un4)))) (aI (aI (aI Ty.sz5 Ty.by5) (aI Ty.ag5 (aI Ty.zr5 Ty.un5))) (aI (aI Ty.sz9 Ty.by9) (aI Ty.ag9 (aI Ty.zr9 Ty.un9)))))
theorem word07_ok (s : Str) : OkP Tryz.prog 124 [vstr s] (vbool (wordB s)) := by
  have fb : ∀ {a b : Bool}, a = b → V.lit (.bool a) = vbool b := fun h => by rw [h]
  refine Ok.of_ex Ty.mixed Tryz.func124 rfl (by simp [Tryz.ntmps124]) (by kernel_rfl) fun F w0 I0 => ?_
  by_cases e0 : s.size = 0
  · have e0' : (s.size : Int) < 1 := by omega
    simp only [↓rA, rB, Nat.reduceEqDiff, reduceCtorEq, tbO91, Tryz.results124, e0']
    exact ret_done (fb (by rw [wordB, if_pos e0]))
  have e0' : ¬ (s.size : Int) < 1 := by omega
  have e0p : 0 < s.size := by omega
  have e0i : (0 : Int) < s.size := by omega
  by_cases e1 : 24 < s.size
  · have e1' : (24 : Int) < s.size := by omega
    simp only [↓rA, rB, Nat.reduceEqDiff, reduceCtorEq, tbO91, Tryz.results124, e0', e1']
    exact ret_done (fb (by rw [wordB, if_neg e0, if_pos e1]))
  have e1' : ¬ (24 : Int) < s.size := by omega
  by_cases e2 : ((s.data.toList.getD 0 0).toNat : Int) < 97
  · simp only [↓rA, rB, Int.reduceToNat, Nat.reduceEqDiff, reduceCtorEq, tbO91, Tryz.results124, e0', e1', e0i, e2]
    exact ret_done (fb (by rw [wordB, if_neg e0, if_neg e1, if_pos e2]))
  by_cases e3 : (122 : Int) < (s.data.toList.getD 0 0).toNat
  · simp only [↓rA, rB, Int.reduceToNat, Nat.reduceEqDiff, reduceCtorEq, tbO91, Tryz.results124, e0', e1', e0i, e2, e3]
    exact ret_done (fb (by rw [wordB, if_neg e0, if_neg e1, if_neg e2, if_pos e3]))
  simp only [↓rA, rB, Int.reduceToNat, Nat.reduceEqDiff, reduceCtorEq, tbO91, Tryz.results124, e0', e1', e0i, e2, e3]
  have hw : wordB s = s.data.toList.all wordC := by rw [wordB, if_neg e0, if_neg e1, if_neg e2, if_neg e3]
  refine EX_for Ty.mixed (by kernel_rfl) s.size (fun i S => (s.data.toList.take i).all wordC = true ∧ S.boxes = [] ∧ S.rows = [] ∧ S.σ 0 = vstr s ∧ S.σ 3 = vint i) ⟨0, ?_⟩ (fun i S hi ⟨hf, gb, gr, g0, g3⟩ => ?_) (fun S ⟨hf, gb, gr, g0, g3⟩ => ?_)
  · simp only [rB, reduceCtorEq]
    try exact rfl
  · have hl : i < s.data.toList.length := by simpa using hi
    have ht := all_take (p := wordC) hl
    have hb := all_fail (p := wordC) hl
    rw [← getD_str s i hi] at ht hb
    generalize hcd : s.data.toList.getD i 0 = c at ht hb
    have hwi := wrap_succ (i := i) (N := s.size) hi (by omega)
    by_cases p1 : (97 : Int) ≤ c.toNat <;> by_cases p2 : (c.toNat : Int) ≤ 122 <;> by_cases p3 : (48 : Int) ≤ c.toNat <;> by_cases p4 : (c.toNat : Int) ≤ 57 <;> by_cases p5 : (c.toNat : Int) = 95 <;>
    first
    | (exact absurd p5 (by omega))
    | (have hc : wordC c = true := by simp [wordC]; omega
       simp only [↓rA, rB, Int.reduceLE, Nat.reduceEqDiff, reduceCtorEq, tbO91, gb, gr, g0, g3, Int.ofNat_lt, hi, hcd, p1, p2, p3, p4, p5, hwi]
       exact ⟨0, by rw [ht, hf, hc]; rfl⟩)
    | (have hc : wordC c = false := by simp [wordC]; omega
       simp only [↓rA, rB, Nat.reduceEqDiff, reduceCtorEq, tbO91, gb, gr, g0, g3, Int.ofNat_lt, hi, hcd, p1, p2, p3, p4, p5]
       exact ret_done (fb (by rw [hw, hb hc])))
  · simp only [↓rA, rB, Nat.reduceEqDiff, reduceCtorEq, tbO91, gb, gr, g0, g3, Int.ofNat_lt, Nat.lt_irrefl]
    rw [List.take_of_length_le (by simp)] at hf
    exact ret_done (fb (by rw [hw, hf]))
set_option linter.defProp false in
def tbO92 := (aI (aI (aI (aI (aI Ty.sz3 Ty.by3) (aI Ty.ag3 Ty.zr3)) (aI (aI Ty.un3 Ty.sz4) (aI Ty.by4 (aI Ty.ag4 Ty.zr4)))) (aI (aI (aI Ty.un4 Ty.sz9) (aI Ty.by9 Ty.ag9)) (aI (aI Ty.zr9 Ty.un9) (aI Ty.sz29 (aI Ty.by29 Ty.ag29))))) (aI (aI (aI (aI Ty.zr29 Ty.un29) (aI Ty.sz35 Ty.by35)) (aI (aI Ty.ag35 Ty.zr35) (aI Ty.un35 (aI Ty.sz103 Ty.by103)))) (aI (aI (aI Ty.ag103 Ty.zr103) (aI Ty.fl103_0 Ty.pl103_0)) (aI (aI Ty.fl103_1 Ty.pl103_1) (aI Ty.eq103 (aI Ty.cb124 Ty.cb125))))))
theorem unit07_ok (u : List Fac) : OkP Tryz.prog 120 [vFacs u] (vint (unitC u)) := by
  have fi : ∀ {a b : Int}, a = b → V.lit (.int .i64 a) = vint b := fun h => by rw [h]
  refine Ok.of_ex Ty.mixed Tryz.func120 rfl (by simp [Tryz.ntmps120]) (by kernel_rfl) fun F w0 I0 => ?_
  by_cases e0 : 4 < u.length
  · have e0' : (4 : Int) < u.length := by omega
    simp only [↓rA, rB, reduceCtorEq, tbO92, Tryz.results120, List.length_map, e0']
    exact ret_done (fi (by rw [unitC, if_pos e0]))
  have e0' : ¬ (4 : Int) < u.length := by omega
  have hu : unitC u = unitL none u := by rw [unitC, if_neg e0]
  simp only [↓rA, rB, reduceCtorEq, tbO92, Tryz.results120, List.length_map, e0']
  refine EX_for Ty.mixed (by kernel_rfl) u.length (fun i S => unitL (prevN u i) (u.drop i) = unitC u ∧ S.boxes = [] ∧ S.rows = [] ∧ S.σ 0 = vFacs u ∧ S.σ 3 = vint i) ⟨0, ?_⟩ (fun i S hi ⟨hf, gb, gr, g0, g3⟩ => ?_) (fun S ⟨hf, gb, gr, g0, g3⟩ => ?_)
  · simp only [rB, reduceCtorEq]
    first | exact hu.symm | exact ⟨hu.symm, rfl⟩
  · have hwi := wrap_succ (i := i) (N := u.length) hi (by omega)
    rw [List.drop_eq_getElem_cons hi, unitL] at hf
    have hn : prevN u (i + 1) = some u[i].name := by simp [prevN, hi]
    simp only [↓rA, rB, Nat.reduceEqDiff, reduceCtorEq, tbO92, gb, g0, g3, Int.ofNat_lt, hi, List.length_map, getD_map _ _ _ hi]
    refine OkF_of _ (word07_ok _) ?_
    cases e1 : wordB u[i].name
    · rw [if_pos e1] at hf
      simp only [↓rA, rB, gr]
      exact ret_done (fi hf)
    rw [if_neg (by rw [e1]; decide)] at hf
    by_cases e2 : u[i].exp = 0
    · rw [if_pos e2] at hf
      simp only [↓rA, rB, Nat.reduceEqDiff, reduceCtorEq, tbO92, gr, g0, g3, e2, Int.ofNat_lt, hi, List.length_map, getD_map _ _ _ hi]
      exact ret_done (fi hf)
    rw [if_neg e2] at hf
    simp only [↓rA, rB, Nat.reduceEqDiff, reduceCtorEq, tbO92, gr, g0, g3, e2, Int.ofNat_lt, hi, List.length_map, getD_map _ _ _ hi]
    refine OkF_of _ (far_ok _) ?_
    cases e3 : outB u[i].exp 8
    · rw [if_neg (by rw [e3]; decide)] at hf
      cases i with
      | zero =>
        simp only [↓rA, rB, Int.reduceLT, Int.reduceToNat, Nat.reduceAdd, Nat.reduceEqDiff, reduceCtorEq, gr, g0, g3]
        exact ⟨0, by rw [hn]; simpa [prevN] using hf, rfl⟩
      | succ j =>
        have hj : j < u.length := by omega
        have hp : prevN u (j + 1) = some u[j].name := by simp [prevN, hj]
        rw [hp] at hf
        have h0 : (0 : Int) < ((j + 1 : Nat) : Int) := by omega
        have hs : ((j + 1 : Nat) : Int) - 1 = (j : Int) := by omega
        have hws := wrap_id (n := (j : Int)) (by omega) (by omega)
        cases e4 : leS u[j + 1].name u[j].name
        · have e4' := e4
          unfold leS at e4'
          rw [if_neg (by simp only [Option.any_some, e4]; decide)] at hf
          simp only [↓rA, rB, Nat.reduceEqDiff, reduceCtorEq, tbO92, gr, g0, g3, hwi, h0, hs, hws, List.length_map, Int.ofNat_lt, hi, hj, getD_map _ _ _ hi, getD_map _ _ _ hj, e4']
          exact ⟨0, by rw [hn]; exact hf⟩
        · have e4' := e4
          unfold leS at e4'
          rw [if_pos (by simp only [Option.any_some, e4])] at hf
          simp only [↓rA, rB, Nat.reduceEqDiff, reduceCtorEq, tbO92, gr, g0, g3, h0, hs, hws, List.length_map, Int.ofNat_lt, hi, hj, getD_map _ _ _ hi, getD_map _ _ _ hj, e4']
          exact ret_done (fi hf)
    · rw [if_pos e3] at hf
      simp only [↓rA, rB, Nat.reduceEqDiff, gr]
      exact ret_done (fi hf)
  · simp only [↓rA, rB, Nat.reduceEqDiff, reduceCtorEq, tbO92, gb, gr, g0, g3, Int.ofNat_lt, Nat.lt_irrefl, List.length_map]
    rw [List.drop_eq_nil_of_le (Nat.le_refl _), unitL] at hf
    exact ret_done (fi hf)
set_option linter.defProp false in
def tbO93 := (aI (aI (aI (aI (aI Ty.sz3 Ty.by3) (aI Ty.ag3 Ty.zr3)) (aI (aI Ty.un3 Ty.sz4) (aI Ty.by4 (aI Ty.ag4 Ty.zr4)))) (aI (aI (aI Ty.un4 Ty.sz9) (aI Ty.by9 (aI Ty.ag9 Ty.zr9))) (aI (aI Ty.un9 Ty.sz29) (aI Ty.by29 (aI Ty.ag29 Ty.zr29))))) (aI (aI (aI (aI Ty.un29 Ty.sz49) (aI Ty.by49 (aI Ty.ag49 Ty.zr49))) (aI (aI Ty.fl49_0 Ty.pl49_0) (aI Ty.fl49_1 (aI Ty.pl49_1 Ty.fl49_2)))) (aI (aI (aI Ty.pl49_2 Ty.sz103) (aI Ty.by103 (aI Ty.ag103 Ty.zr103))) (aI (aI Ty.fl103_0 Ty.pl103_0) (aI Ty.fl103_1 (aI Ty.pl103_1 Ty.eq103))))))
theorem number_ok (k : Int) (u : List Fac) (of : Str) : OkP Tryz.prog 119 [.agg [vint k, vFacs u, vstr of]] (vbool (decide (k = 2 ∨ k = 3))) := by
  refine Ok.of_ex Ty.mixed Tryz.func119 rfl (by simp [Tryz.ntmps119]) (by kernel_rfl) fun F w0 I0 => ?_
  simp only [↓rA, rB]
  refine fun b1 h1 => ?_; replace h1 := newb h1; try simp only [Nb] at h1
  by_cases e1 : k = 2
  · simp only [↓rA, rB, Int.reduceEq, Nat.reduceAdd, Nat.reduceEqDiff, tbO93, Tryz.results119, e1]
    exact ret_done (by simp [])
  · by_cases e2 : k = 3
    · simp only [↓rA, rB, Int.reduceEq, Nat.reduceAdd, Nat.reduceEqDiff, tbO93, Tryz.results119, e2]
      exact ret_done (by simp [])
    · simp only [↓rA, rB, Nat.reduceAdd, Nat.reduceEqDiff, tbO93, Tryz.results119, e1, e2]
      exact ret_done (by simp [])
set_option linter.defProp false in
def tbO94 := (aI (aI (aI (aI (aI Ty.sz3 Ty.by3) (aI Ty.ag3 (aI Ty.zr3 Ty.un3))) (aI (aI Ty.sz4 (aI Ty.by4 Ty.ag4)) (aI Ty.zr4 (aI Ty.un4 Ty.sz9)))) (aI (aI (aI Ty.by9 (aI Ty.ag9 Ty.zr9)) (aI Ty.un9 (aI Ty.sz29 Ty.by29))) (aI (aI Ty.ag29 (aI Ty.zr29 Ty.un29)) (aI Ty.sz35 (aI Ty.by35 Ty.ag35))))) (aI (aI (aI (aI Ty.zr35 (aI Ty.un35 Ty.sz49)) (aI Ty.by49 (aI Ty.ag49 Ty.zr49))) (aI (aI Ty.fl49_0 (aI Ty.pl49_0 Ty.fl49_1)) (aI Ty.pl49_1 (aI Ty.fl49_2 Ty.pl49_2)))) (aI (aI (aI Ty.sz103 (aI Ty.by103 Ty.ag103)) (aI Ty.zr103 (aI Ty.fl103_0 Ty.pl103_0))) (aI (aI Ty.fl103_1 (aI Ty.pl103_1 Ty.eq103)) (aI Ty.cb80 (aI Ty.cb119 Ty.cb120))))))
theorem typeR_ok (k : Int) (u : List Fac) (of : Str) : OkP Tryz.prog 103 [vTy k u of] (vint (typeC k u of)) := by
  have fi : ∀ {a b : Int}, a = b → V.lit (.int .i64 a) = vint b := fun h => by rw [h]
  refine Ok.of_ex Ty.mixed Tryz.func103 rfl (by simp [Tryz.ntmps103]) (by kernel_rfl) fun F w0 I0 => ?_
  simp only [↓rA, rB]
  refine fun b1 h1 => ?_; replace h1 := newb h1; try simp only [Nb] at h1
  by_cases e0 : k < 1
  · simp only [↓rA, rB, Nat.reduceAdd, Nat.reduceEqDiff, tbO94, Tryz.results103, e0]
    exact ret_done (fi (by simp [typeC, e0]))
  by_cases e1 : 5 < k
  · simp only [↓rA, rB, Nat.reduceAdd, Nat.reduceEqDiff, tbO94, Tryz.results103, e0, e1]
    exact ret_done (fi (by simp [typeC, e0, e1]))
  have go : ∀ x : Int, typeC k u of = x → ((k = 5 ∧ nameB of = true ∧ ¬ 0 < u.length) ∨ (¬ k = 5 ∧ of = es0 ∧ (k = 2 ∨ k = 3)) ∨ (¬ k = 5 ∧ of = es0 ∧ ¬ (k = 2 ∨ k = 3) ∧ ¬ 0 < u.length)) → x = if ¬ unitC u = 0 then 70 else if allN u = false then 70 else 0 := by
    rintro x rfl h
    rw [typeC, if_neg e0, if_neg e1]
    rcases h with ⟨rfl, en, e2⟩ | ⟨e5, eo, en⟩ | ⟨e5, eo, en, e2⟩
    · rw [if_neg (fun h => e2 h.1), if_pos rfl, if_neg (fun e => by rw [nameB, if_pos e] at en; cases en), if_neg (by rw [en]; decide)]
    · rw [if_neg (fun h => h.2 en), if_neg e5, if_neg (fun h => h eo)]
    · rw [if_neg (fun h => e2 h.1), if_neg e5, if_neg (fun h => h eo)]
  by_cases hc : (k = 5 ∧ nameB of = true ∧ ¬ 0 < u.length) ∨ (¬ k = 5 ∧ of = es0 ∧ (k = 2 ∨ k = 3)) ∨ (¬ k = 5 ∧ of = es0 ∧ ¬ (k = 2 ∨ k = 3) ∧ ¬ 0 < u.length)
  · have ht := go _ rfl hc
    rw [ht]
    clear go ht
    have h0 : (0 < u.length) = ((0 : Int) < u.length) := by simp
    rw [h0] at hc
    rcases hc with c | c | c <;>
    (first
     | (simp only [↓rA, rB, Int.reduceLT, Nat.reduceAdd, Nat.reduceEqDiff, tbO94, e0, e1, c]
        refine OkF_of _ (nameR_ok of) ?_
        simp only [↓rA, rB, Nat.reduceAdd, Nat.reduceEqDiff, tbO94, c]
        refine OkF_of _ (number_ok _ _ _) ?_)
     | (simp only [↓rA, rB, Nat.reduceAdd, Nat.reduceEqDiff, tbO94, e0, e1, c]
        refine OkF_of _ (number_ok _ _ _) ?_)) <;>
    (simp only [↓rA, rB, Int.reduceEq, Nat.reduceAdd, Nat.reduceEqDiff, tbO94, c, List.length_map]
     refine OkF_of _ (unit07_ok u) ?_
     by_cases eu : unitC u = 0
     case neg =>
       simp only [↓rA, rB, Int.reduceEq, Tryz.results103, eu]
       exact ret_done (fi (by first | rfl | rw [if_pos eu]))
     rw [if_neg (fun h => h eu)]
     have hl4 := unitC_len eu
     simp only [↓rA, rB, Int.reduceEq, Tryz.results103, eu]
     refine EX_for Ty.mixed (by kernel_rfl) u.length (fun i S => (u.take i).all (fun f => nameB f.name) = true ∧ (∃ a b, S.boxes = [(b1, .c [a, vFacs u, b])]) ∧ S.rows = [] ∧ S.σ 1 = ptr b1 ∧ S.σ 3 = vint i) ⟨0, ?_⟩ (fun i S hi ⟨hf, ⟨a, b, gb⟩, gr, g1, g3⟩ => ?_) (fun S ⟨hf, ⟨a, b, gb⟩, gr, g1, g3⟩ => ?_)
     · simp only [rB, Nat.reduceEqDiff]
       first | exact ⟨⟨_, _, rfl⟩, rfl⟩ | exact ⟨_, _, rfl⟩ | exact ⟨rfl, ⟨_, _, rfl⟩, rfl⟩
     · have hwi := wrap_succ (i := i) (N := u.length) hi (by omega)
       have ht := all_take (p := fun f : Fac => nameB f.name) hi
       have hb := all_fail (p := fun f : Fac => nameB f.name) hi
       simp only [↓rA, rB, Nat.reduceAdd, Nat.reduceEqDiff, tbO94, gb, g1, g3, Int.ofNat_lt, hi, List.length_map, getD_map _ _ _ hi]
       refine OkF_of _ (nameR_ok _) ?_
       cases e : nameB u[i].name
       · simp only [↓rA, rB, gr]
         exact ret_done (fi (by rw [allN, hb e]; rfl))
       · simp only [↓rA, rB, Nat.reduceEqDiff, gr, g1, g3, hwi]
         exact ⟨0, by rw [ht, hf, e]; rfl, a, b, rfl⟩
     · simp only [↓rA, rB, Nat.reduceAdd, Nat.reduceEqDiff, tbO94, gb, gr, g1, g3, Int.ofNat_lt, Nat.lt_irrefl, List.length_map]
       rw [List.take_of_length_le (Nat.le_refl _)] at hf
       exact ret_done (fi (by rw [allN, hf]; rfl)))
  · have h0 : (0 < u.length) = ((0 : Int) < u.length) := by simp
    have ht : typeC k u of = 3 := by
      rw [typeC, if_neg e0, if_neg e1]
      split
      · rfl
      · rename_i h2
        split
        · rename_i e5
          split
          · rfl
          · split
            · rfl
            · rename_i eo en
              exact absurd (.inl ⟨e5, by simpa using en, fun h => h2 ⟨h, by omega⟩⟩) hc
        · rename_i e5
          split
          · rfl
          · rename_i eo
            by_cases en : k = 2 ∨ k = 3
            · exact absurd (.inr (.inl ⟨e5, Classical.not_not.1 eo, en⟩)) hc
            · exact absurd (.inr (.inr ⟨e5, Classical.not_not.1 eo, en, fun h => h2 ⟨h, en⟩⟩)) hc
    rw [ht]
    rw [h0] at hc
    by_cases e5 : k = 5
    · have nn : ¬ (k = 2 ∨ k = 3) := by omega
      simp only [↓rA, rB, Int.reduceLT, Nat.reduceAdd, Nat.reduceEqDiff, tbO94, e5]
      refine OkF_of _ (nameR_ok of) ?_
      cases en : nameB of
      · simp only [↓rA, rB, Nat.reduceEqDiff, Tryz.results103, e5]
        exact ret_done rfl
      · have e2 : (0 : Int) < u.length := Classical.not_not.1 fun h => hc (.inl ⟨e5, en, h⟩)
        subst e5
        simp only [↓rA, rB, Nat.reduceAdd, Nat.reduceEqDiff, tbO94]
        refine OkF_of _ (number_ok _ _ _) ?_
        simp only [↓rA, rB, Int.reduceEq, Nat.reduceAdd, Nat.reduceEqDiff, tbO94, Tryz.results103, e2, List.length_map]
        exact ret_done rfl
    · by_cases eo : of = es0
      · have nn : ¬ (k = 2 ∨ k = 3) := fun h => hc (.inr (.inl ⟨e5, eo, h⟩))
        have e2 : (0 : Int) < u.length := Classical.not_not.1 fun h => hc (.inr (.inr ⟨e5, eo, nn, h⟩))
        simp only [↓rA, rB, Nat.reduceAdd, Nat.reduceEqDiff, tbO94, e0, e1, e5, eo]
        refine OkF_of _ (number_ok _ _ _) ?_
        simp only [↓rA, rB, Nat.reduceAdd, Nat.reduceEqDiff, tbO94, Tryz.results103, e2, nn, List.length_map]
        exact ret_done rfl
      · simp only [↓rA, rB, Nat.reduceAdd, Nat.reduceEqDiff, tbO94, Tryz.results103, e0, e1, e5, eo]
        exact ret_done rfl
end Go.Proofs.YtphkmlogjgeipaaGreatDoor

/- Contracts of lowering, part d: equality of units and heads, size, depth. -/
set_option linter.unusedSimpArgs false
set_option maxRecDepth 100000
namespace Go.Proofs.YtphkmlogjgeipaaGreatDoor
open Go.VL Go.Ar Go.Lo Go.Proofs.YtphkmlogjgeipaaGreatDoor

theorem wrapAdd (a b : Int) : IntKind.i64.wrap (IntKind.i64.wrap a + IntKind.i64.wrap b) = IntKind.i64.wrap (a + b) := by
  simp only [IntKind.wrap_i64]; omega
theorem wrapAddL (a b : Int) : IntKind.i64.wrap (IntKind.i64.wrap a + b) = IntKind.i64.wrap (a + b) := by
  simp only [IntKind.wrap_i64]; omega

/-- How far lists fit. -/
def big : Nat := 1099511627776
inductive Fit : E → Prop
  | mk (h : Hd) (l : List E) (hu : h.unit.length ≤ big) (hl : l.length ≤ big) (ha : ∀ x ∈ l, Fit x) : Fit (.mk h l)
theorem Fit.unit {x : E} (h : Fit x) : x.hd.unit.length ≤ big := by cases h; assumption
theorem Fit.len {x : E} (h : Fit x) : x.args.length ≤ big := by cases h; assumption
theorem Fit.args {x : E} (h : Fit x) : ∀ y ∈ x.args, Fit y := by cases h; assumption

theorem fac_ext (f g : Fac) : (f = g) = (f.name = g.name ∧ f.exp = g.exp) := by cases f; cases g; simp
set_option linter.defProp false in
def tbLE0 := (aI (aI (aI (aI Ty.sz3 (aI Ty.by3 Ty.ag3)) (aI (aI Ty.zr3 Ty.un3) (aI Ty.sz4 Ty.by4))) (aI (aI Ty.ag4 (aI Ty.zr4 Ty.un4)) (aI (aI Ty.sz9 Ty.by9) (aI Ty.ag9 Ty.zr9)))) (aI (aI (aI Ty.un9 (aI Ty.sz29 Ty.by29)) (aI (aI Ty.ag29 Ty.zr29) (aI Ty.un29 Ty.sz103))) (aI (aI (aI Ty.by103 Ty.ag103) (aI Ty.zr103 Ty.fl103_0)) (aI (aI Ty.pl103_0 Ty.fl103_1) (aI Ty.pl103_1 Ty.eq103)))))
theorem eqFacs_ok (u v : List Fac) (hu : u.length ≤ big) : OkP Tryz.prog 54 [vFacs u, vFacs v] (vbool (decide (u = v))) := by
  have fb : ∀ {a b : Bool}, a = b → V.lit (.bool a) = vbool b := fun h => by rw [h]
  unfold big at hu
  refine Ok.of_ex Ty.mixed Tryz.func54 rfl (by simp [Tryz.ntmps54]) (by kernel_rfl) fun F w0 I0 => ?_
  by_cases hl : ¬ u.length = v.length
  · have hl' : ¬ (u.length : Int) = v.length := by omega
    simp only [↓rA, rB, Nat.reduceEqDiff, reduceCtorEq, tbLE0, Tryz.results54, List.length_map, hl']
    exact ret_done (fb (decide_eq_false fun e => hl (by rw [e])).symm)
  have hl' : (u.length : Int) = v.length := by omega
  have hl : u.length = v.length := by omega
  simp only [↓rA, rB, Nat.reduceEqDiff, reduceCtorEq, tbLE0, Tryz.results54, List.length_map, hl']
  refine EX_for Ty.mixed (by kernel_rfl) v.length (fun i S => u.take i = v.take i ∧ S.boxes = [] ∧ S.rows = [] ∧ S.σ 0 = vFacs u ∧ S.σ 1 = vFacs v ∧ S.σ 12 = vint v.length ∧ S.σ 13 = vint i) ⟨0, ?_⟩ (fun i S hi ⟨hf, gb, gr, g0, g1, g7, g8⟩ => ?_) (fun S ⟨hf, gb, gr, g0, g1, g7, g8⟩ => ?_)
  · simp only [rB, Nat.reduceEqDiff, reduceCtorEq]
    try exact rfl
  · have hwi := wrap_succ (i := i) (N := v.length) hi (by omega)
    have hiu : i < u.length := by omega
    simp only [↓rA, rB, Nat.reduceAdd, Nat.reduceEqDiff, reduceCtorEq, tbLE0, g0, g1, g7, g8, Int.ofNat_lt, hi, hiu, List.length_map, getD_map _ _ _ hi, getD_map _ _ _ hiu]
    refine onCond_splitb (fun hc => ?_) (fun hc => ?_)
    · simp only [↓rA, rB, gb, gr]
      refine ret_done (fb (decide_eq_false fun e => ?_).symm)
      subst e
      simp at hc
    · simp only [↓rA, rB, Nat.reduceEqDiff, reduceCtorEq, gb, gr, g0, g1, g7, g8, hwi]
      refine ⟨0, ?_⟩
      rw [List.take_succ_eq_append_getElem hi, List.take_succ_eq_append_getElem hiu, hf]
      have : u[i] = v[i] := by
        rw [fac_ext]
        simpa using hc
      rw [this]
  · simp only [↓rA, rB, gb, gr, g7, g8, Int.ofNat_lt, Nat.lt_irrefl]
    rw [List.take_of_length_le (Nat.le_refl _), List.take_of_length_le (by omega)] at hf
    exact ret_done (fb (decide_eq_true hf).symm)

/-! ### Size and depth -/
theorem sizeEs_append : ∀ l m : List E, sizeEs (l ++ m) = sizeEs l + sizeEs m
  | [], m => by simp [sizeEs]
  | x :: r, m => by simp only [List.cons_append, sizeEs, sizeEs_append r m]; omega
theorem depthEs_append : ∀ l m : List E, depthEs (l ++ m) = max (depthEs l) (depthEs m)
  | [], m => by simp [depthEs]
  | x :: r, m => by simp only [List.cons_append, depthEs, depthEs_append r m]; omega
set_option linter.defProp false in
def tbLE1 := (aI (aI (aI (aI (aI (aI Ty.sz3 Ty.by3) (aI Ty.ag3 Ty.zr3)) (aI (aI Ty.un3 Ty.sz9) (aI Ty.by9 (aI Ty.ag9 Ty.zr9)))) (aI (aI (aI Ty.un9 Ty.sz28) (aI Ty.by28 Ty.ag28)) (aI (aI Ty.zr28 Ty.fl28_0) (aI Ty.pl28_0 (aI Ty.fl28_1 Ty.pl28_1))))) (aI (aI (aI (aI Ty.fl28_2 Ty.pl28_2) (aI Ty.sz29 Ty.by29)) (aI (aI Ty.ag29 Ty.zr29) (aI Ty.un29 (aI Ty.sz31 Ty.by31)))) (aI (aI (aI Ty.ag31 Ty.zr31) (aI Ty.fl31_0 Ty.pl31_0)) (aI (aI Ty.fl31_1 Ty.pl31_1) (aI Ty.sz32 (aI Ty.by32 Ty.ag32)))))) (aI (aI (aI (aI (aI Ty.zr32 Ty.un32) (aI Ty.sz34 Ty.by34)) (aI (aI Ty.ag34 Ty.zr34) (aI Ty.fl34_0 (aI Ty.pl34_0 Ty.fl34_1)))) (aI (aI (aI Ty.pl34_1 Ty.fl34_2) (aI Ty.pl34_2 Ty.fl34_3)) (aI (aI Ty.pl34_3 Ty.fl34_4) (aI Ty.pl34_4 (aI Ty.fl34_5 Ty.pl34_5))))) (aI (aI (aI (aI Ty.fl34_6 Ty.pl34_6) (aI Ty.fl34_7 Ty.pl34_7)) (aI (aI Ty.fl34_8 Ty.pl34_8) (aI Ty.sz103 (aI Ty.by103 Ty.ag103)))) (aI (aI (aI Ty.zr103 Ty.fl103_0) (aI Ty.pl103_0 Ty.fl103_1)) (aI (aI Ty.pl103_1 Ty.eq28) (aI Ty.eq31 (aI Ty.eq103 Ty.cb44)))))))
theorem size_ok : ∀ x : E, Fit x → OkP Tryz.prog 44 [vE x] (vint (IntKind.i64.wrap (sizeE x))) := by
  intro x
  induction x using E.ind with
  | h hd l ih =>
    intro hf
    have hl := hf.len
    have ha := hf.args
    simp only [E.args, big] at hl ha
    rw [vE, cE_mk]
    refine Ok.of_ex Ty.mixed Tryz.func44 rfl (by simp [Tryz.ntmps44]) (by kernel_rfl) fun F w0 I0 => ?_
    simp only [↓rA, rB]
    refine fun b1 h1 => ?_; replace h1 := newb h1; try simp only [Nb] at h1
    simp only [↓rA, rB, Nat.reduceEqDiff, tbLE1, Tryz.results44]
    refine EX_for Ty.mixed (by kernel_rfl) l.length (fun i S => S.boxes = [(b1, .c (cH hd (vEs l)))] ∧ S.rows = [] ∧ S.σ 1 = ptr b1 ∧ S.σ 2 = vint (IntKind.i64.wrap (1 + sizeEs (l.take i))) ∧ S.σ 6 = vEs l ∧ S.σ 7 = vint l.length ∧ S.σ 8 = vint i) ⟨0, ?_⟩ (fun i S hi ⟨gb, gr, g1, g2, g6, g7, g8⟩ => ?_) (fun S ⟨gb, gr, g1, g2, g6, g7, g8⟩ => ?_)
    · simp only [rB, Nat.reduceEqDiff, List.length_map]
      exact congrArg (fun n => V.lit (.int .i64 n)) (by decide)
    · have hwi := wrap_succ (i := i) (N := l.length) hi (by omega)
      have hx := List.getElem_mem hi
      simp only [↓rA, rB, Nat.reduceAdd, Nat.reduceEqDiff, tbLE1, gb, gr, g6, g7, g8, Int.ofNat_lt, hi, List.length_map, getD_map _ _ _ hi, cE_eq]
      refine fun b4 h4 => ?_; replace h4 := newb h4; try simp only [Nb] at h4
      simp only [↓rA, rB, Nat.reduceAdd, Nat.reduceEqDiff, tbLE1, gb, g2, getD_map _ _ _ hi]
      have hc := ih l[i] hx (ha _ hx)
      rw [vE, cE_eq] at hc
      refine OkF_of _ hc ?_
      simp only [↓rA, rB, Nat.reduceEqDiff, gr, g1, g6, g7, g8, hwi]
      refine ⟨1, rfl, ?_⟩
      rw [wrapAdd, List.take_succ_eq_append_getElem hi, sizeEs_append]
      exact congrArg (fun n => V.lit (.int .i64 (IntKind.i64.wrap n))) (by simp only [sizeEs]; omega)
    · simp only [↓rA, rB, Nat.reduceEqDiff, gb, gr, g2, g7, g8, Int.ofNat_lt, Nat.lt_irrefl]
      refine ret_done ?_
      rw [sizeE_mk, List.take_of_length_le (Nat.le_refl _)]
      exact congrArg (fun n => V.lit (.int .i64 (IntKind.i64.wrap n))) (by omega)
set_option linter.defProp false in
def tbLE2 := (aI (aI (aI (aI (aI (aI Ty.sz3 Ty.by3) (aI Ty.ag3 Ty.zr3)) (aI (aI Ty.un3 Ty.sz9) (aI Ty.by9 (aI Ty.ag9 Ty.zr9)))) (aI (aI (aI Ty.un9 Ty.sz28) (aI Ty.by28 Ty.ag28)) (aI (aI Ty.zr28 Ty.fl28_0) (aI Ty.pl28_0 (aI Ty.fl28_1 Ty.pl28_1))))) (aI (aI (aI (aI Ty.fl28_2 Ty.pl28_2) (aI Ty.sz29 Ty.by29)) (aI (aI Ty.ag29 Ty.zr29) (aI Ty.un29 (aI Ty.sz31 Ty.by31)))) (aI (aI (aI Ty.ag31 Ty.zr31) (aI Ty.fl31_0 Ty.pl31_0)) (aI (aI Ty.fl31_1 Ty.pl31_1) (aI Ty.sz32 (aI Ty.by32 Ty.ag32)))))) (aI (aI (aI (aI (aI Ty.zr32 Ty.un32) (aI Ty.sz34 Ty.by34)) (aI (aI Ty.ag34 Ty.zr34) (aI Ty.fl34_0 (aI Ty.pl34_0 Ty.fl34_1)))) (aI (aI (aI Ty.pl34_1 Ty.fl34_2) (aI Ty.pl34_2 Ty.fl34_3)) (aI (aI Ty.pl34_3 Ty.fl34_4) (aI Ty.pl34_4 (aI Ty.fl34_5 Ty.pl34_5))))) (aI (aI (aI (aI Ty.fl34_6 Ty.pl34_6) (aI Ty.fl34_7 Ty.pl34_7)) (aI (aI Ty.fl34_8 Ty.pl34_8) (aI Ty.sz103 (aI Ty.by103 Ty.ag103)))) (aI (aI (aI Ty.zr103 Ty.fl103_0) (aI Ty.pl103_0 Ty.fl103_1)) (aI (aI Ty.pl103_1 Ty.eq28) (aI Ty.eq31 (aI Ty.eq103 Ty.cb45)))))))
theorem depth_ok : ∀ x : E, Fit x → depthE x ≤ big → OkP Tryz.prog 45 [vE x] (vint (depthE x)) := by
  intro x
  induction x using E.ind with
  | h hd l ih =>
    intro hf hb
    have hl := hf.len
    have ha := hf.args
    simp only [E.args, big] at hl ha
    rw [depthE_mk] at hb
    unfold big at hb
    rw [vE, cE_mk]
    refine Ok.of_ex Ty.mixed Tryz.func45 rfl (by simp [Tryz.ntmps45]) (by kernel_rfl) fun F w0 I0 => ?_
    simp only [↓rA, rB]
    refine fun b1 h1 => ?_; replace h1 := newb h1; try simp only [Nb] at h1
    simp only [↓rA, rB, Nat.reduceEqDiff, tbLE2, Tryz.results45]
    refine EX_for Ty.mixed (by kernel_rfl) l.length (fun i S => S.boxes = [(b1, .c (cH hd (vEs l)))] ∧ S.rows = [] ∧ S.σ 1 = ptr b1 ∧ S.σ 2 = vint (depthEs (l.take i)) ∧ S.σ 6 = vEs l ∧ S.σ 7 = vint l.length ∧ S.σ 8 = vint i) ⟨0, ?_⟩ (fun i S hi ⟨gb, gr, g1, g2, g6, g7, g8⟩ => ?_) (fun S ⟨gb, gr, g1, g2, g6, g7, g8⟩ => ?_)
    · simp only [rB, Nat.reduceEqDiff, List.length_map]
      exact rfl
    · have hwi := wrap_succ (i := i) (N := l.length) hi (by omega)
      have hx := List.getElem_mem hi
      simp only [↓rA, rB, Nat.reduceAdd, Nat.reduceEqDiff, tbLE2, gb, gr, g6, g7, g8, Int.ofNat_lt, hi, List.length_map, getD_map _ _ _ hi, cE_eq]
      refine fun b4 h4 => ?_; replace h4 := newb h4; try simp only [Nb] at h4
      simp only [↓rA, rB, Nat.reduceAdd, Nat.reduceEqDiff, tbLE2, gb, g2, getD_map _ _ _ hi]
      have hd := depthEs_mem hx
      have hc := ih l[i] hx (ha _ hx) (by unfold big; omega)
      rw [vE, cE_eq] at hc
      refine OkF_of _ hc ?_
      simp only [↓rA, rB, Nat.reduceEqDiff, gr, g1, g6, g7, g8, hwi]
      refine ⟨1, rfl, ?_⟩
      rw [List.take_succ_eq_append_getElem hi, depthEs_append]
      exact congrArg (fun n => V.lit (.int .i64 n)) (by simp only [depthEs]; split <;> omega)
    · simp only [↓rA, rB, Nat.reduceEqDiff, gb, gr, g2, g7, g8, Int.ofNat_lt, Nat.lt_irrefl]
      refine ret_done ?_
      rw [depthE_mk, List.take_of_length_le (Nat.le_refl _), wrap_id (by omega) (by omega)]
      exact rfl

/-! ### Equality of heads -/
theorem hd_ext (a b : Hd) : (a = b) = (a.kind = b.kind ∧ a.op = b.op ∧ a.name = b.name ∧ a.table = b.table ∧ (a.val.kind = b.val.kind ∧ a.val.n = b.val.n ∧ a.val.s = b.val.s) ∧ a.unit = b.unit ∧ a.param = b.param ∧ a.wk = b.wk ∧ a.ws = b.ws) := by
  cases a with | mk _ _ _ _ v1 _ _ _ _ => cases b with | mk _ _ _ _ v2 _ _ _ _ => cases v1; cases v2; simp
theorem valEq (a b : Val) : (decide (a.kind = b.kind) && (decide (a.n = b.n) && decide (a.s = b.s))) = decide (a = b) := by
  cases a; cases b
  rw [Bool.eq_iff_iff]; simp
theorem winEq (a b : Hd) : (decide (a.wk = b.wk) && decide (a.ws = b.ws)) = decide (a.wk = b.wk ∧ a.ws = b.ws) := by
  rw [Bool.eq_iff_iff]; simp
set_option linter.defProp false in
def tbLE3 := (aI (aI (aI (aI (aI (aI Ty.sz3 Ty.by3) (aI Ty.ag3 Ty.zr3)) (aI (aI Ty.un3 Ty.sz4) (aI Ty.by4 (aI Ty.ag4 Ty.zr4)))) (aI (aI (aI Ty.un4 Ty.sz9) (aI Ty.by9 (aI Ty.ag9 Ty.zr9))) (aI (aI Ty.un9 Ty.sz28) (aI Ty.by28 (aI Ty.ag28 Ty.zr28))))) (aI (aI (aI (aI Ty.fl28_0 Ty.pl28_0) (aI Ty.fl28_1 Ty.pl28_1)) (aI (aI Ty.fl28_2 Ty.pl28_2) (aI Ty.sz29 (aI Ty.by29 Ty.ag29)))) (aI (aI (aI Ty.zr29 Ty.un29) (aI Ty.sz31 (aI Ty.by31 Ty.ag31))) (aI (aI Ty.zr31 Ty.fl31_0) (aI Ty.pl31_0 (aI Ty.fl31_1 Ty.pl31_1)))))) (aI (aI (aI (aI (aI Ty.sz32 Ty.by32) (aI Ty.ag32 Ty.zr32)) (aI (aI Ty.un32 Ty.sz34) (aI Ty.by34 (aI Ty.ag34 Ty.zr34)))) (aI (aI (aI Ty.fl34_0 Ty.pl34_0) (aI Ty.fl34_1 (aI Ty.pl34_1 Ty.fl34_2))) (aI (aI Ty.pl34_2 Ty.fl34_3) (aI Ty.pl34_3 (aI Ty.fl34_4 Ty.pl34_4))))) (aI (aI (aI (aI Ty.fl34_5 Ty.pl34_5) (aI Ty.fl34_6 (aI Ty.pl34_6 Ty.fl34_7))) (aI (aI Ty.pl34_7 Ty.fl34_8) (aI Ty.pl34_8 (aI Ty.sz103 Ty.by103)))) (aI (aI (aI Ty.ag103 Ty.zr103) (aI Ty.fl103_0 (aI Ty.pl103_0 Ty.fl103_1))) (aI (aI Ty.pl103_1 Ty.eq28) (aI Ty.eq31 (aI Ty.eq103 Ty.cb54)))))))
theorem bare_ok (a b : Hd) (x y : List E) (hu : a.unit.length ≤ big) : OkP Tryz.prog 65 [.agg (cH a (vEs x)), .agg (cH b (vEs y))] (vbool (decide (a = b))) := by
  have fb : ∀ {a b : Bool}, a = b → V.lit (.bool a) = vbool b := fun h => by rw [h]
  refine Ok.of_ex Ty.mixed Tryz.func65 rfl (by simp [Tryz.ntmps65]) (by kernel_rfl) fun F w0 I0 => ?_
  simp only [↓rA, rB]
  refine fun b1 h1 => ?_; replace h1 := newb h1; try simp only [Nb] at h1
  simp only [↓rA, rB, Nat.reduceEqDiff]
  refine fun b2 h2 => ?_; replace h2 := newb h2; try simp only [Nb] at h2
  by_cases e0 : a.kind = b.kind
  case neg =>
    simp only [↓rA, rB, Nat.reduceAdd, Nat.reduceEqDiff, tbLE3, Tryz.results65, h2, e0]
    exact ret_done (fb (decide_eq_false fun e => e0 (by rw [e])).symm)
  by_cases e1 : a.op = b.op
  case neg =>
    simp only [↓rA, rB, Nat.reduceAdd, Nat.reduceEqDiff, tbLE3, Tryz.results65, h2, e0, e1]
    exact ret_done (fb (decide_eq_false fun e => e1 (by rw [e])).symm)
  by_cases e2 : a.name = b.name
  case neg =>
    simp only [↓rA, rB, Nat.reduceAdd, Nat.reduceEqDiff, tbLE3, Tryz.results65, h2, e0, e1, e2]
    exact ret_done (fb (decide_eq_false fun e => e2 (by rw [e])).symm)
  by_cases e3 : a.table = b.table
  case neg =>
    simp only [↓rA, rB, Nat.reduceAdd, Nat.reduceEqDiff, tbLE3, Tryz.results65, h2, e0, e1, e2, e3]
    exact ret_done (fb (decide_eq_false fun e => e3 (by rw [e])).symm)
  have v4 := valEq a.val b.val
  have v7 := winEq a b
  by_cases e4 : a.val = b.val
  case neg =>
    simp only [↓rA, rB, Nat.reduceAdd, Nat.reduceEqDiff, Nat.reduceLeDiff, tbLE3, Tryz.results65, h2, e0, e1, e2, e3, e4, v4]
    exact ret_done (fb (decide_eq_false fun e => e4 (by rw [e])).symm)
  simp only [↓rA, rB, Nat.reduceAdd, Nat.reduceEqDiff, Nat.reduceLeDiff, tbLE3, h2, e0, e1, e2, e3, e4]
  refine OkF_of _ (eqFacs_ok a.unit b.unit hu) ?_
  by_cases e5 : a.unit = b.unit
  case neg =>
    simp only [↓rA, rB, Nat.reduceEqDiff, Tryz.results65, e5]
    exact ret_done (fb (decide_eq_false fun e => e5 (by rw [e])).symm)
  by_cases e6 : a.param = b.param
  case neg =>
    simp only [↓rA, rB, Nat.reduceAdd, Nat.reduceEqDiff, tbLE3, Tryz.results65, h2, e5, e6]
    exact ret_done (fb (decide_eq_false fun e => e6 (by rw [e])).symm)
  by_cases e7 : a.wk = b.wk ∧ a.ws = b.ws
  case neg =>
    simp only [↓rA, rB, Nat.reduceAdd, Nat.reduceEqDiff, Nat.reduceLeDiff, tbLE3, Tryz.results65, h2, e5, e6, e7, v7]
    exact ret_done (fb (decide_eq_false fun e => e7 (by rw [e]; exact ⟨rfl, rfl⟩)).symm)
  simp only [↓rA, rB, Nat.reduceAdd, Nat.reduceEqDiff, Nat.reduceLeDiff, tbLE3, Tryz.results65, h2, e5, e6, e7]
  exact ret_done (fb (decide_eq_true (by rw [hd_ext]; exact ⟨e0, e1, e2, e3, by rw [e4]; exact ⟨rfl, rfl, rfl⟩, e5, e6, e7.1, e7.2⟩)).symm)
end Go.Proofs.YtphkmlogjgeipaaGreatDoor

/- Contracts of lowering, part e: the form of expressions (proper, Shape). Printed by mkLF.py. -/
set_option linter.unusedSimpArgs false
set_option maxRecDepth 100000
namespace Go.Proofs.YtphkmlogjgeipaaGreatDoor
open Go.VL Go.Ar Go.Lo Go.Proofs.YtphkmlogjgeipaaGreatDoor

abbrev aggL : List Str := [⟨#[99, 111, 117, 110, 116]⟩, ⟨#[115, 117, 109]⟩, ⟨#[109, 101, 97, 110]⟩, ⟨#[109, 105, 110]⟩, ⟨#[109, 97, 120]⟩, ⟨#[102, 105, 114, 115, 116]⟩, ⟨#[108, 97, 115, 116]⟩, ⟨#[100, 105, 115, 116, 105, 110, 99, 116]⟩, ⟨#[113, 117, 97, 110, 116, 105, 108, 101]⟩, ⟨#[100, 101, 99, 97, 121]⟩]
abbrev unL : List Str := [⟨#[45]⟩, ⟨#[110, 111, 116]⟩, ⟨#[110, 117, 108, 108]⟩]
abbrev binL : List Str := [⟨#[43]⟩, ⟨#[45]⟩, ⟨#[42]⟩, ⟨#[47]⟩, ⟨#[61, 61]⟩, ⟨#[33, 61]⟩, ⟨#[60]⟩, ⟨#[60, 61]⟩, ⟨#[97, 110, 100]⟩, ⟨#[111, 114]⟩]
abbrev sQuant : Str := ⟨#[113, 117, 97, 110, 116, 105, 108, 101]⟩
abbrev sDecay : Str := ⟨#[100, 101, 99, 97, 121]⟩
abbrev sCount : Str := ⟨#[99, 111, 117, 110, 116]⟩
def loP (op : Str) : Int := if op = sQuant then 1 else if op = sDecay then 1 else 0
def hiP (op : Str) : Int := if op = sQuant then 1000 else if op = sDecay then 1073741824 else 0
def okWin (wk ws : Int) : Bool := if wk < 1 then false else if 4 < wk then false else if ¬ (wk = 1 ↔ ws = 0) then false else if ws < 0 then false else if 1099511627776 < ws then false else true
def okAgg (h : Hd) : Bool := if memS aggL h.op = false then false else if nameB h.table = false then false else if h.param < loP h.op then false else if hiP h.op < h.param then false else okWin h.wk h.ws
def okHd (h : Hd) (ins : Bool) : Bool :=
  if h.kind = 1 then (if ¬ valC h.val = 0 then false else if h.val.n < 0 then false else decide (typeC h.val.kind h.unit h.name = 0))
  else if h.kind = 2 then (if ins = true then nameB h.name else false)
  else if h.kind = 3 then (if ins = true then false else nameB h.name)
  else if h.kind = 4 then (if ins = true then false else nameB h.name)
  else if h.kind = 5 then (if ins = true then false else okAgg h)
  else if h.kind = 6 then memS unL h.op
  else if h.kind = 7 then memS binL h.op
  else if h.kind = 8 then true
  else decide (h.kind = 9)
def wantH (h : Hd) : Hd :=
  if h.kind = 1 then { hd0 1 with val := h.val, unit := h.unit, name := h.name }
  else if h.kind = 2 then { hd0 2 with name := h.name } else if h.kind = 3 then { hd0 3 with name := h.name } else if h.kind = 4 then { hd0 4 with name := h.name }
  else if h.kind = 5 then { hd0 5 with op := h.op, table := h.table, param := h.param, wk := h.wk, ws := h.ws }
  else if h.kind = 6 then { hd0 6 with op := h.op } else if h.kind = 7 then { hd0 7 with op := h.op } else hd0 h.kind
def manyH (k : Int) : Int := if k = 4 then 1 else if k = 5 then 2 else if k = 6 then 1 else if k = 7 then 2 else if k = 8 then 3 else if k = 9 then 2 else 0
abbrev hdTrue : Hd := { hd0 1 with val := ⟨1, 1, es0⟩ }
def countOk (h : Hd) (l : List E) : Bool := if h.op = sCount then (if h.kind = 5 then (match l with | [] => false | x :: _ => decide (x.hd = hdTrue)) else true) else true
mutual
def properE : E → Bool → Bool
  | .mk h l, ins => okHd h ins && decide (h = wantH h) && decide ((l.length : Int) = manyH h.kind) && properEs l (ins || decide (h.kind = 5)) && countOk h l
def properEs : List E → Bool → Bool
  | [], _ => true
  | x :: r, ins => properE x ins && properEs r ins
end
theorem properE_mk (h : Hd) (l : List E) (ins : Bool) : properE (.mk h l) ins = (okHd h ins && decide (h = wantH h) && decide ((l.length : Int) = manyH h.kind) && properEs l (ins || decide (h.kind = 5)) && countOk h l) := by rw [properE]
theorem properEs_append : ∀ (l m : List E) (ins : Bool), properEs (l ++ m) ins = (properEs l ins && properEs m ins)
  | [], m, ins => by simp [properEs]
  | x :: r, m, ins => by simp only [List.cons_append, properEs, properEs_append r m, Bool.and_assoc]
theorem properEs_all : ∀ (l : List E) (ins : Bool), properEs l ins = true ↔ ∀ x ∈ l, properE x ins = true
  | [], ins => by simp [properEs]
  | x :: r, ins => by simp only [properEs, Bool.and_eq_true, properEs_all r ins, List.mem_cons, forall_eq_or_imp]

/-- The cells of a head, but for its unit's. -/
abbrev cHu (h : Hd) (u a : V) : List V := [vint h.kind, vstr h.op, vstr h.name, vstr h.table, vint h.val.kind, vint h.val.n, vstr h.val.s, u, vint h.param, vint h.wk, vint h.ws, a]
abbrev pt (b o : Nat) : V := .lit (.pointer (some ⟨b, o, none⟩))

def In6 (b2 b5 : Nat) (h : Hd) (a : V) (ins : Bool) (L : Nat → Bool) (S : St) : Prop :=
  S.rows = [] ∧ S.σ 2 = ptr b2 ∧ S.σ 5 = ptr b5 ∧ S.σ 1 = vbool ins ∧ S.σ 6 = vint 0 ∧ (L 0 = true → S.σ 19 = pt b2 4) ∧ (L 1 = true → S.σ 20 = .agg [vint h.val.kind, vint h.val.n, vstr h.val.s]) ∧ (L 2 = true → S.σ 21 = pt b2 7) ∧ (L 3 = true → S.σ 22 = vFacs h.unit) ∧ (L 4 = true → S.σ 23 = pt b2 2) ∧ (L 5 = true → S.σ 24 = vstr h.name) ∧ (L 6 = true → S.σ 25 = pt b5 4) ∧ (L 8 = true → S.σ 26 = pt b5 7) ∧ (L 10 = true → S.σ 27 = pt b5 2) ∧ S.boxes = [(b5, .c [vint 1, vstr es0, bif L 11 then vstr h.name else vstr es0, vstr es0, bif L 7 then vint h.val.kind else vint 0, bif L 7 then vint h.val.n else vint 0, bif L 7 then vstr h.val.s else vstr es0, bif L 9 then vFacs h.unit else nilS, vint 0, vint 0, vint 0, nilS]), (b2, .c (cH h a))]
def In18 (b2 b5 : Nat) (h : Hd) (a : V) (ins : Bool) (L : Nat → Bool) (S : St) : Prop :=
  S.rows = [] ∧ S.σ 2 = ptr b2 ∧ S.σ 5 = ptr b5 ∧ S.σ 1 = vbool ins ∧ (L 0 = true → S.σ 73 = pt b2 1) ∧ (L 1 = true → S.σ 74 = vstr h.op) ∧ (L 2 = true → S.σ 75 = pt b2 3) ∧ (L 3 = true → S.σ 76 = vstr h.table) ∧ (L 4 = true → S.σ 77 = pt b2 8) ∧ (L 5 = true → S.σ 78 = vint h.param) ∧ (L 6 = true → S.σ 79 = pt b2 9) ∧ (L 7 = true → S.σ 80 = .agg [vint h.wk, vint h.ws]) ∧ (L 8 = true → S.σ 81 = pt b5 1) ∧ (L 10 = true → S.σ 82 = pt b5 3) ∧ (L 12 = true → S.σ 83 = pt b5 8) ∧ (L 14 = true → S.σ 84 = pt b5 9) ∧ S.boxes = [(b5, .c [vint 5, bif L 9 then vstr h.op else vstr es0, vstr es0, bif L 11 then vstr h.table else vstr es0, vint 0, vint 0, vstr es0, nilS, bif L 13 then vint h.param else vint 0, bif L 15 then vint h.wk else vint 0, bif L 15 then vint h.ws else vint 0, nilS]), (b2, .c (cH h a))]

theorem LeL.refl' : ∀ l : List V, LeL l l
  | [] => .nil
  | v :: l => .cons (Le.refl v) (LeL.refl' l)
theorem leAgg {l l' : List V} (h : LeL l l') : Le (.agg l) (.agg l') := by
  intro w I x hx
  simp only [V.rep] at hx ⊢
  obtain ⟨xs, e, hr⟩ := hx
  exact ⟨xs, e, h.reps hr⟩
theorem leHu {h : Hd} {u : V} (hu : Le u (vFacs h.unit)) : Le (.agg (cHu h u nilS)) (.agg (cH h (vEs []))) :=
  leAgg (.cons (Le.refl _) (.cons (Le.refl _) (.cons (Le.refl _) (.cons (Le.refl _) (.cons (Le.refl _) (.cons (Le.refl _) (.cons (Le.refl _) (.cons hu (.cons (Le.refl _) (.cons (Le.refl _) (.cons (Le.refl _) (.cons (Le.nil 12) .nil))))))))))))
set_option linter.defProp false in
def tbLF0 := (aI (aI (aI (aI (aI (aI Ty.sz3 (aI Ty.by3 Ty.ag3)) (aI Ty.zr3 (aI Ty.un3 Ty.sz4))) (aI (aI Ty.by4 (aI Ty.ag4 Ty.zr4)) (aI Ty.un4 (aI Ty.sz9 Ty.by9)))) (aI (aI (aI Ty.ag9 (aI Ty.zr9 Ty.un9)) (aI Ty.sz28 (aI Ty.by28 Ty.ag28))) (aI (aI Ty.zr28 (aI Ty.fl28_0 Ty.pl28_0)) (aI (aI Ty.fl28_1 Ty.pl28_1) (aI Ty.fl28_2 Ty.pl28_2))))) (aI (aI (aI (aI Ty.sz29 (aI Ty.by29 Ty.ag29)) (aI Ty.zr29 (aI Ty.un29 Ty.sz31))) (aI (aI Ty.by31 (aI Ty.ag31 Ty.zr31)) (aI (aI Ty.fl31_0 Ty.pl31_0) (aI Ty.fl31_1 Ty.pl31_1)))) (aI (aI (aI Ty.sz32 (aI Ty.by32 Ty.ag32)) (aI Ty.zr32 (aI Ty.un32 Ty.sz34))) (aI (aI Ty.by34 (aI Ty.ag34 Ty.zr34)) (aI (aI Ty.fl34_0 Ty.pl34_0) (aI Ty.fl34_1 Ty.pl34_1)))))) (aI (aI (aI (aI (aI Ty.fl34_2 (aI Ty.pl34_2 Ty.fl34_3)) (aI Ty.pl34_3 (aI Ty.fl34_4 Ty.pl34_4))) (aI (aI Ty.fl34_5 (aI Ty.pl34_5 Ty.fl34_6)) (aI Ty.pl34_6 (aI Ty.fl34_7 Ty.pl34_7)))) (aI (aI (aI Ty.fl34_8 (aI Ty.pl34_8 Ty.sz35)) (aI Ty.by35 (aI Ty.ag35 Ty.zr35))) (aI (aI Ty.un35 (aI Ty.sz49 Ty.by49)) (aI (aI Ty.ag49 Ty.zr49) (aI Ty.fl49_0 Ty.pl49_0))))) (aI (aI (aI (aI Ty.fl49_1 (aI Ty.pl49_1 Ty.fl49_2)) (aI Ty.pl49_2 (aI Ty.sz78 Ty.by78))) (aI (aI Ty.ag78 (aI Ty.zr78 Ty.un78)) (aI (aI Ty.sz103 Ty.by103) (aI Ty.ag103 Ty.zr103)))) (aI (aI (aI Ty.fl103_0 (aI Ty.pl103_0 Ty.fl103_1)) (aI Ty.pl103_1 (aI Ty.eq28 Ty.eq31))) (aI (aI Ty.eq103 (aI Ty.cb33 Ty.cb46)) (aI (aI Ty.cb62 Ty.cb63) (aI Ty.cb64 Ty.cb65)))))))
set_option maxHeartbeats 4000000 in
theorem proper_ok : ∀ (x : E) (ins : Bool), Fit x → OkP Tryz.prog 46 [vE x, vbool ins] (vbool (properE x ins)) := by
  have fb : ∀ {a b : Bool}, a = b → V.lit (.bool a) = vbool b := fun h => by rw [h]
  have nq : (sDecay = ({ data := #[113, 117, 97, 110, 116, 105, 108, 101] } : ByteArray)) = False := eq_false (by decide)
  intro x
  induction x using E.ind with
  | h hd l ih =>
  intro ins hf
  have hl := hf.len
  have hu := hf.unit
  have ha := hf.args
  simp only [E.args, E.hd, big] at hl ha hu
  rw [vE, cE_mk]
  have bad : okHd hd ins = false → properE (.mk hd l) ins = false := fun h => by rw [properE_mk, h]; rfl
  refine Ok.of_exM [(6, 3), (18, 3)] Ty.mixed Tryz.func46 rfl (by simp [Tryz.ntmps46]) (by kernel_rfl) fun F w0 I0 => ?_
  simp only [↓rA, rB]
  refine fun b2 h2 => ?_; replace h2 := newb h2; try simp only [Nb] at h2
  simp only [↓rA, rB, Nat.reduceAdd, Nat.reduceEqDiff, Nat.reduceLeDiff, tbLF0]
  refine fun b5 h5 => ?_; replace h5 := newb h5; try simp only [Nb] at h5
  simp only [↓EX_seq, ↓EX_region, ↓EX_ops_nil, ↓EX_plain, ↓ST_assign, ↓ST_load, ↓ST_fieldAddr, ↓ST_store, ↓loadK_eq, ↓fieldAddrK_eq, ↓loadD_one, ↓storeK_eq, onVal_eq, Todo_eq, put_eq, put_ne, put_none, put_boxes, addBox_σ, addBox_boxes, setBoxes_σ, setBoxes_boxes, S0_boxes, ev_tmp, ev_const, getB_same, getB_other, setB_same, onSome_some, onHead_cons, shiftP_ptr, atP_ptr, posK_succ, onPtr_ptr, And2_true, cellsV, oneB, okC, Nat.le_refl, eq_self, and_self, not_false_eq_true, ne_eq, List.map_cons, List.map_nil, List.take_zero, List.drop_succ_cons, List.drop_zero, List.drop_nil, List.length_cons, List.length_nil, List.nil_append, List.append_nil, List.toList_toArray, Nat.add_zero, Nat.zero_add, Bool.and_true, Nat.reduceEqDiff, Nat.reduceAdd, tbLF0, Tryz.results46, h5]
  refine EX_cut (fun S => okHd hd ins = true ∧ (∃ u, Le u (vFacs (wantH hd).unit) ∧ S.boxes = [(b5, .c (cHu (wantH hd) u nilS)), (b2, .c (cH hd (vEs l)))]) ∧ S.rows = [] ∧ S.σ 2 = ptr b2 ∧ S.σ 5 = ptr b5 ∧ S.σ 1 = vbool (ins || decide (hd.kind = 5)) ∧ S.σ 6 = vint (manyH hd.kind)) ?_ ?_
  · rcases (by omega : hd.kind = 1 ∨ hd.kind = 2 ∨ hd.kind = 3 ∨ hd.kind = 4 ∨ hd.kind = 5 ∨ hd.kind = 6 ∨ hd.kind = 7 ∨ hd.kind = 8 ∨ hd.kind = 9 ∨ (¬ hd.kind = 1 ∧ ¬ hd.kind = 2 ∧ ¬ hd.kind = 3 ∧ ¬ hd.kind = 4 ∧ ¬ hd.kind = 5 ∧ ¬ hd.kind = 6 ∧ ¬ hd.kind = 7 ∧ ¬ hd.kind = 8 ∧ ¬ hd.kind = 9)) with e | e | e | e | e | e | e | e | e | e
    · simp only [↓rA, rB, Int.reduceEq, Nat.reduceEqDiff, e]
      refine EX_inv (some true) Ty.mixed (by kernel_rfl) (by kernel_rfl) (In6 b2 b5 hd (vEs l) ins) ?_ ?_ ?_
      · exact ⟨rfl, rfl, rfl, rfl, rfl, fun h => (by cases h), fun h => (by cases h), fun h => (by cases h), fun h => (by cases h), fun h => (by cases h), fun h => (by cases h), fun h => (by cases h), fun h => (by cases h), fun h => (by cases h), rfl⟩
      · intro L S i o ho hL he ⟨gr, g2, g5, k0, k1, f0, f1, f2, f3, f4, f5, f6, f8, f10, gb⟩
        match i, ho with
        | 0, ho =>
          cases ho
          simp only [↓rA, rB, reduceCtorEq, tbLF0, g2]
          exact ⟨gr, g2, g5, k0, k1, fun _ => rfl, f1, f2, f3, f4, f5, f6, f8, f10, gb⟩
        | 1, ho =>
          cases ho
          have d0 := f0 (he ⟨0, .data⟩ (by simp) rfl)
          simp only [↓rA, rB, Nat.reduceAdd, Nat.reduceLeDiff, reduceCtorEq, tbLF0, gb, h5, d0]
          exact ⟨gr, g2, g5, k0, k1, f0, fun _ => rfl, f2, f3, f4, f5, f6, f8, f10, gb⟩
        | 2, ho =>
          cases ho
          simp only [↓rA, rB, reduceCtorEq, tbLF0, g2]
          exact ⟨gr, g2, g5, k0, k1, f0, f1, fun _ => rfl, f3, f4, f5, f6, f8, f10, gb⟩
        | 3, ho =>
          cases ho
          have d2 := f2 (he ⟨2, .data⟩ (by simp) rfl)
          simp only [↓rA, rB, reduceCtorEq, tbLF0, gb, h5, d2]
          exact ⟨gr, g2, g5, k0, k1, f0, f1, f2, fun _ => rfl, f4, f5, f6, f8, f10, gb⟩
        | 4, ho =>
          cases ho
          simp only [↓rA, rB, reduceCtorEq, tbLF0, g2]
          exact ⟨gr, g2, g5, k0, k1, f0, f1, f2, f3, fun _ => rfl, f5, f6, f8, f10, gb⟩
        | 5, ho =>
          cases ho
          have d4 := f4 (he ⟨4, .data⟩ (by simp) rfl)
          simp only [↓rA, rB, reduceCtorEq, tbLF0, gb, h5, d4]
          exact ⟨gr, g2, g5, k0, k1, f0, f1, f2, f3, f4, fun _ => rfl, f6, f8, f10, gb⟩
        | 6, ho =>
          cases ho
          simp only [↓rA, rB, reduceCtorEq, tbLF0, g5]
          exact ⟨gr, g2, g5, k0, k1, f0, f1, f2, f3, f4, f5, fun _ => rfl, f8, f10, gb⟩
        | 7, ho =>
          cases ho
          have d6 := f6 (he ⟨6, .data⟩ (by simp) rfl)
          have d1 := f1 (he ⟨1, .data⟩ (by simp) rfl)
          simp only [↓rA, rB, Nat.reduceAdd, Nat.reduceLeDiff, tbLF0, gb, d6, d1]
          exact ⟨gr, g2, g5, k0, k1, f0, f1, f2, f3, f4, f5, f6, f8, f10, rfl⟩
        | 8, ho =>
          cases ho
          simp only [↓rA, rB, reduceCtorEq, tbLF0, g5]
          exact ⟨gr, g2, g5, k0, k1, f0, f1, f2, f3, f4, f5, f6, fun _ => rfl, f10, gb⟩
        | 9, ho =>
          cases ho
          have d8 := f8 (he ⟨8, .data⟩ (by simp) rfl)
          have d3 := f3 (he ⟨3, .data⟩ (by simp) rfl)
          simp only [↓rA, rB, Nat.reduceAdd, Nat.reduceLeDiff, tbLF0, gb, d8, d3]
          exact ⟨gr, g2, g5, k0, k1, f0, f1, f2, f3, f4, f5, f6, f8, f10, rfl⟩
        | 10, ho =>
          cases ho
          simp only [↓rA, rB, reduceCtorEq, tbLF0, g5]
          exact ⟨gr, g2, g5, k0, k1, f0, f1, f2, f3, f4, f5, f6, f8, fun _ => rfl, gb⟩
        | 11, ho =>
          cases ho
          have d10 := f10 (he ⟨10, .data⟩ (by simp) rfl)
          have d5 := f5 (he ⟨5, .data⟩ (by simp) rfl)
          simp only [↓rA, rB, Nat.reduceAdd, Nat.reduceLeDiff, tbLF0, gb, d10, d5]
          exact ⟨gr, g2, g5, k0, k1, f0, f1, f2, f3, f4, f5, f6, f8, f10, rfl⟩
        | n + 12, ho => cases ho
      · intro L S hL ⟨gr, g2, g5, k0, k1, f0, f1, f2, f3, f4, f5, f6, f8, f10, gb⟩
        replace hL : ∀ i, i < 12 → L i = true := hL
        have l7 := hL 7 (by decide)
        have l9 := hL 9 (by decide)
        have l11 := hL 11 (by decide)
        rw [l7, l9, l11] at gb
        simp only [cond_true] at gb
        simp only [↓rA, rB, Nat.reduceAdd, Nat.reduceLeDiff, tbLF0, g2, gb, h5]
        refine OkF_of _ (valC_ok hd.val) ?_
        by_cases v1 : valC hd.val = 0
        case neg =>
          simp only [↓rA, rB, Nat.reduceEqDiff, v1, gr]
          exact ret_done (fb (bad (by simp [okHd, e, v1])).symm)
        by_cases v2 : hd.val.n < 0
        · simp only [↓rA, rB, Nat.reduceAdd, Nat.reduceEqDiff, tbLF0, v1, v2, gr, g2, h5]
          exact ret_done (fb (bad (by simp [okHd, e, v1, v2])).symm)
        simp only [↓rA, rB, Nat.reduceAdd, Nat.reduceEqDiff, Nat.reduceLeDiff, tbLF0, v1, v2, gr, g2, h5]
        refine OkF_of _ (typeC_ok hd.val.kind hd.unit hd.name) ?_
        by_cases v3 : typeC hd.val.kind hd.unit hd.name = 0
        · have hok : okHd hd ins = true := by simp [okHd, e, v1, v2, v3]
          have hw : wantH hd = { hd0 1 with val := hd.val, unit := hd.unit, name := hd.name } := by simp [wantH, e]
          have hm : manyH 1 = 0 := rfl
          simp only [↓rA, rB, Nat.reduceEqDiff, v3, gr, g2, g5, k0, k1, hok, hw, hm]
          exact ⟨_, Le.refl _, rfl⟩
        · simp only [↓rA, rB, Nat.reduceEqDiff, v3, gr]
          exact ret_done (fb (bad (by simp [okHd, e, v1, v2, v3])).symm)
    · cases ins
      · simp only [↓rA, rB, Int.reduceEq, Nat.reduceAdd, Nat.reduceEqDiff, Nat.reduceLeDiff, tbLF0, h5, e]
        exact ret_done (fb (bad (by simp [okHd, e])).symm)
      · simp only [↓rA, rB, Int.reduceEq, Nat.reduceAdd, Nat.reduceEqDiff, Nat.reduceLeDiff, tbLF0, h5, e]
        refine OkF_of _ (name_ok hd.name) ?_
        cases v1 : nameB hd.name
        · simp only [↓rA, rB, Nat.reduceEqDiff, e]
          exact ret_done (fb (bad (by simp [okHd, e, v1])).symm)
        · have hok : okHd hd true = true := by simp [okHd, e, v1]
          have hw : wantH hd = { hd0 2 with name := hd.name } := by simp [wantH, e]
          have hm : manyH 2 = 0 := rfl
          simp only [↓rA, rB, Int.reduceEq, Nat.reduceAdd, Nat.reduceEqDiff, tbLF0, h5, e, hok, hw, hm]
          exact ⟨_, Le.nil 2, rfl⟩
    · cases ins
      · simp only [↓rA, rB, Int.reduceEq, Nat.reduceAdd, Nat.reduceEqDiff, Nat.reduceLeDiff, tbLF0, h5, e]
        refine OkF_of _ (name_ok hd.name) ?_
        cases v1 : nameB hd.name
        · simp only [↓rA, rB, Nat.reduceEqDiff, e]
          exact ret_done (fb (bad (by simp [okHd, e, v1])).symm)
        · have hok : okHd hd false = true := by simp [okHd, e, v1]
          have hw : wantH hd = { hd0 3 with name := hd.name } := by simp [wantH, e]
          have hm : manyH 3 = 0 := rfl
          simp only [↓rA, rB, Int.reduceEq, Nat.reduceAdd, Nat.reduceEqDiff, tbLF0, h5, e, hok, hw, hm]
          exact ⟨_, Le.nil 2, rfl⟩
      · simp only [↓rA, rB, Int.reduceEq, Nat.reduceAdd, Nat.reduceEqDiff, Nat.reduceLeDiff, reduceCtorEq, tbLF0, h5, e]
        exact ret_done (fb (bad (by simp [okHd, e])).symm)
    · cases ins
      · simp only [↓rA, rB, Int.reduceEq, Nat.reduceAdd, Nat.reduceEqDiff, Nat.reduceLeDiff, tbLF0, h5, e]
        refine OkF_of _ (name_ok hd.name) ?_
        cases v1 : nameB hd.name
        · simp only [↓rA, rB, Nat.reduceEqDiff, e]
          exact ret_done (fb (bad (by simp [okHd, e, v1])).symm)
        · have hok : okHd hd false = true := by simp [okHd, e, v1]
          have hw : wantH hd = { hd0 4 with name := hd.name } := by simp [wantH, e]
          have hm : manyH 4 = 1 := rfl
          simp only [↓rA, rB, Int.reduceEq, Nat.reduceAdd, Nat.reduceEqDiff, tbLF0, h5, e, hok, hw, hm]
          exact ⟨_, Le.nil 2, rfl⟩
      · simp only [↓rA, rB, Int.reduceEq, Nat.reduceAdd, Nat.reduceEqDiff, Nat.reduceLeDiff, reduceCtorEq, tbLF0, h5, e]
        exact ret_done (fb (bad (by simp [okHd, e])).symm)
    · simp only [↓rA, rB, Int.reduceEq, Nat.reduceEqDiff, e]
      refine EX_inv (some true) Ty.mixed (by kernel_rfl) (by kernel_rfl) (In18 b2 b5 hd (vEs l) ins) ?_ ?_ ?_
      · exact ⟨rfl, rfl, rfl, rfl, fun h => (by cases h), fun h => (by cases h), fun h => (by cases h), fun h => (by cases h), fun h => (by cases h), fun h => (by cases h), fun h => (by cases h), fun h => (by cases h), fun h => (by cases h), fun h => (by cases h), fun h => (by cases h), fun h => (by cases h), rfl⟩
      · intro L S i o ho hL he ⟨gr, g2, g5, k0, f0, f1, f2, f3, f4, f5, f6, f7, f8, f10, f12, f14, gb⟩
        match i, ho with
        | 0, ho =>
          cases ho
          simp only [↓rA, rB, reduceCtorEq, tbLF0, g2]
          exact ⟨gr, g2, g5, k0, fun _ => rfl, f1, f2, f3, f4, f5, f6, f7, f8, f10, f12, f14, gb⟩
        | 1, ho =>
          cases ho
          have d0 := f0 (he ⟨0, .data⟩ (by simp) rfl)
          simp only [↓rA, rB, reduceCtorEq, tbLF0, gb, h5, d0]
          exact ⟨gr, g2, g5, k0, f0, fun _ => rfl, f2, f3, f4, f5, f6, f7, f8, f10, f12, f14, gb⟩
        | 2, ho =>
          cases ho
          simp only [↓rA, rB, reduceCtorEq, tbLF0, g2]
          exact ⟨gr, g2, g5, k0, f0, f1, fun _ => rfl, f3, f4, f5, f6, f7, f8, f10, f12, f14, gb⟩
        | 3, ho =>
          cases ho
          have d2 := f2 (he ⟨2, .data⟩ (by simp) rfl)
          simp only [↓rA, rB, reduceCtorEq, tbLF0, gb, h5, d2]
          exact ⟨gr, g2, g5, k0, f0, f1, f2, fun _ => rfl, f4, f5, f6, f7, f8, f10, f12, f14, gb⟩
        | 4, ho =>
          cases ho
          simp only [↓rA, rB, reduceCtorEq, tbLF0, g2]
          exact ⟨gr, g2, g5, k0, f0, f1, f2, f3, fun _ => rfl, f5, f6, f7, f8, f10, f12, f14, gb⟩
        | 5, ho =>
          cases ho
          have d4 := f4 (he ⟨4, .data⟩ (by simp) rfl)
          simp only [↓rA, rB, reduceCtorEq, tbLF0, gb, h5, d4]
          exact ⟨gr, g2, g5, k0, f0, f1, f2, f3, f4, fun _ => rfl, f6, f7, f8, f10, f12, f14, gb⟩
        | 6, ho =>
          cases ho
          simp only [↓rA, rB, reduceCtorEq, tbLF0, g2]
          exact ⟨gr, g2, g5, k0, f0, f1, f2, f3, f4, f5, fun _ => rfl, f7, f8, f10, f12, f14, gb⟩
        | 7, ho =>
          cases ho
          have d6 := f6 (he ⟨6, .data⟩ (by simp) rfl)
          simp only [↓rA, rB, Nat.reduceAdd, Nat.reduceLeDiff, reduceCtorEq, tbLF0, gb, h5, d6]
          exact ⟨gr, g2, g5, k0, f0, f1, f2, f3, f4, f5, f6, fun _ => rfl, f8, f10, f12, f14, gb⟩
        | 8, ho =>
          cases ho
          simp only [↓rA, rB, reduceCtorEq, tbLF0, g5]
          exact ⟨gr, g2, g5, k0, f0, f1, f2, f3, f4, f5, f6, f7, fun _ => rfl, f10, f12, f14, gb⟩
        | 9, ho =>
          cases ho
          have d8 := f8 (he ⟨8, .data⟩ (by simp) rfl)
          have d1 := f1 (he ⟨1, .data⟩ (by simp) rfl)
          simp only [↓rA, rB, Nat.reduceAdd, Nat.reduceLeDiff, tbLF0, gb, d8, d1]
          exact ⟨gr, g2, g5, k0, f0, f1, f2, f3, f4, f5, f6, f7, f8, f10, f12, f14, rfl⟩
        | 10, ho =>
          cases ho
          simp only [↓rA, rB, reduceCtorEq, tbLF0, g5]
          exact ⟨gr, g2, g5, k0, f0, f1, f2, f3, f4, f5, f6, f7, f8, fun _ => rfl, f12, f14, gb⟩
        | 11, ho =>
          cases ho
          have d10 := f10 (he ⟨10, .data⟩ (by simp) rfl)
          have d3 := f3 (he ⟨3, .data⟩ (by simp) rfl)
          simp only [↓rA, rB, Nat.reduceAdd, Nat.reduceLeDiff, tbLF0, gb, d10, d3]
          exact ⟨gr, g2, g5, k0, f0, f1, f2, f3, f4, f5, f6, f7, f8, f10, f12, f14, rfl⟩
        | 12, ho =>
          cases ho
          simp only [↓rA, rB, reduceCtorEq, tbLF0, g5]
          exact ⟨gr, g2, g5, k0, f0, f1, f2, f3, f4, f5, f6, f7, f8, f10, fun _ => rfl, f14, gb⟩
        | 13, ho =>
          cases ho
          have d12 := f12 (he ⟨12, .data⟩ (by simp) rfl)
          have d5 := f5 (he ⟨5, .data⟩ (by simp) rfl)
          simp only [↓rA, rB, Nat.reduceAdd, Nat.reduceLeDiff, tbLF0, gb, d12, d5]
          exact ⟨gr, g2, g5, k0, f0, f1, f2, f3, f4, f5, f6, f7, f8, f10, f12, f14, rfl⟩
        | 14, ho =>
          cases ho
          simp only [↓rA, rB, reduceCtorEq, tbLF0, g5]
          exact ⟨gr, g2, g5, k0, f0, f1, f2, f3, f4, f5, f6, f7, f8, f10, f12, fun _ => rfl, gb⟩
        | 15, ho =>
          cases ho
          have d14 := f14 (he ⟨14, .data⟩ (by simp) rfl)
          have d7 := f7 (he ⟨7, .data⟩ (by simp) rfl)
          simp only [↓rA, rB, Nat.reduceAdd, Nat.reduceLeDiff, tbLF0, gb, d14, d7]
          exact ⟨gr, g2, g5, k0, f0, f1, f2, f3, f4, f5, f6, f7, f8, f10, f12, f14, rfl⟩
        | n + 16, ho => cases ho
      · intro L S hL ⟨gr, g2, g5, k0, f0, f1, f2, f3, f4, f5, f6, f7, f8, f10, f12, f14, gb⟩
        replace hL : ∀ i, i < 16 → L i = true := hL
        have l9 := hL 9 (by decide)
        have l11 := hL 11 (by decide)
        have l13 := hL 13 (by decide)
        have l15 := hL 15 (by decide)
        rw [l9, l11, l13, l15] at gb
        simp only [cond_true] at gb
        clear hL f0 f1 f2 f3 f4 f5 f6 f7 f8 f10 f12 f14
        cases ins
        case true =>
          by_cases q1 : hd.op = sQuant
          · simp only [↓rA, rB, Nat.reduceAdd, Nat.reduceEqDiff, tbLF0, gr, g2, k0, gb, h5, q1]
            exact ret_done (fb (bad (by simp [okHd, e])).symm)
          by_cases q2 : hd.op = sDecay
          · simp only [↓rA, rB, Nat.reduceAdd, Nat.reduceEqDiff, tbLF0, gr, g2, k0, gb, h5, q2, nq]
            exact ret_done (fb (bad (by simp [okHd, e])).symm)
          simp only [↓rA, rB, Nat.reduceAdd, Nat.reduceEqDiff, tbLF0, gr, g2, k0, gb, h5, q1, q2]
          exact ret_done (fb (bad (by simp [okHd, e])).symm)
        have hw : wantH hd = { hd0 5 with op := hd.op, table := hd.table, param := hd.param, wk := hd.wk, ws := hd.ws } := by simp [wantH, e]
        have hm : manyH 5 = 2 := rfl
        by_cases q1 : hd.op = sQuant
        · simp only [↓rA, rB, Nat.reduceAdd, Nat.reduceEqDiff, reduceCtorEq, tbLF0, g2, k0, gb, h5, q1]
          refine OkF_of _ (containsS_ok aggL sQuant (by decide)) ?_
          cases v1 : memS aggL sQuant
          · simp only [↓rA, rB, Nat.reduceEqDiff, gr]
            exact ret_done (fb (bad (by simp [okHd, e, okAgg, q1, v1])).symm)
          simp only [↓rA, rB, Nat.reduceAdd, Nat.reduceEqDiff, tbLF0, gr, g2, h5, q1]
          refine OkF_of _ (name_ok hd.table) ?_
          cases v2 : nameB hd.table
          · simp only [↓rA, rB, Nat.reduceEqDiff, gr]
            exact ret_done (fb (bad (by simp [okHd, e, okAgg, q1, v1, v2])).symm)
          by_cases v3 : hd.param < 1
          · simp only [↓rA, rB, Nat.reduceAdd, Nat.reduceEqDiff, tbLF0, gr, g2, h5, q1, v3]
            exact ret_done (fb (bad (by simp [okHd, e, okAgg, loP, q1, v1, v2, v3])).symm)
          by_cases v4 : 1000 < hd.param
          · simp only [↓rA, rB, Nat.reduceAdd, Nat.reduceEqDiff, tbLF0, gr, g2, h5, q1, v3, v4]
            exact ret_done (fb (bad (by simp [okHd, e, okAgg, loP, hiP, q1, v1, v2, v3, v4])).symm)
          have hoa : okAgg hd = okWin hd.wk hd.ws := by simp [okAgg, loP, hiP, q1, v1, v2, v3, v4]
          by_cases w1 : hd.wk < 1
          · simp only [↓rA, rB, Nat.reduceAdd, Nat.reduceEqDiff, tbLF0, gr, g2, h5, q1, v3, v4, w1]
            exact ret_done (fb (bad (by simp [okHd, e, hoa, okWin, w1])).symm)
          by_cases w2 : 4 < hd.wk
          · simp only [↓rA, rB, Nat.reduceAdd, Nat.reduceEqDiff, tbLF0, gr, g2, h5, q1, v3, v4, w1, w2]
            exact ret_done (fb (bad (by simp [okHd, e, hoa, okWin, w1, w2])).symm)
          by_cases w3 : hd.wk = 1
          · by_cases w4 : hd.ws = 0
            · have hok : okHd hd false = true := by simp [okHd, e, hoa, okWin, w3, w4]
              simp only [↓rA, rB, Int.reduceLT, Nat.reduceAdd, Nat.reduceEqDiff, tbLF0, gr, g2, g5, h5, q1, v3, v4, w3, w4, hok, hw, hm]
              exact ⟨_, Le.nil 2, rfl⟩
            · simp only [↓rA, rB, Int.reduceLT, Nat.reduceAdd, Nat.reduceEqDiff, reduceCtorEq, tbLF0, gr, g2, h5, q1, v3, v4, w3, w4]
              exact ret_done (fb (bad (by simp [okHd, e, hoa, okWin, w3, w4])).symm)
          · by_cases w4 : hd.ws = 0
            · simp only [↓rA, rB, Nat.reduceAdd, Nat.reduceEqDiff, tbLF0, gr, g2, h5, q1, v3, v4, w1, w2, w3, w4]
              exact ret_done (fb (bad (by simp [okHd, e, hoa, okWin, w1, w2, w3, w4])).symm)
            by_cases w5 : hd.ws < 0
            · simp only [↓rA, rB, Nat.reduceAdd, Nat.reduceEqDiff, tbLF0, gr, g2, h5, q1, v3, v4, w1, w2, w3, w4, w5]
              exact ret_done (fb (bad (by simp [okHd, e, hoa, okWin, w1, w2, w3, w4, w5])).symm)
            by_cases w6 : 1099511627776 < hd.ws
            · simp only [↓rA, rB, Nat.reduceAdd, Nat.reduceEqDiff, tbLF0, gr, g2, h5, q1, v3, v4, w1, w2, w3, w4, w5, w6]
              exact ret_done (fb (bad (by simp [okHd, e, hoa, okWin, w1, w2, w3, w4, w5, w6])).symm)
            have hok : okHd hd false = true := by simp [okHd, e, hoa, okWin, w1, w2, w3, w4, w5, w6]
            simp only [↓rA, rB, Nat.reduceAdd, Nat.reduceEqDiff, tbLF0, gr, g2, g5, h5, q1, v3, v4, w1, w2, w3, w4, w5, w6, hok, hw, hm]
            exact ⟨_, Le.nil 2, rfl⟩
        by_cases q2 : hd.op = sDecay
        · simp only [↓rA, rB, Nat.reduceAdd, Nat.reduceEqDiff, reduceCtorEq, tbLF0, g2, k0, gb, h5, q2, nq]
          refine OkF_of _ (containsS_ok aggL sDecay (by decide)) ?_
          cases v1 : memS aggL sDecay
          · simp only [↓rA, rB, Nat.reduceEqDiff, gr]
            exact ret_done (fb (bad (by simp [okHd, e, okAgg, q2, v1])).symm)
          simp only [↓rA, rB, Nat.reduceAdd, Nat.reduceEqDiff, tbLF0, gr, g2, h5, q2]
          refine OkF_of _ (name_ok hd.table) ?_
          cases v2 : nameB hd.table
          · simp only [↓rA, rB, Nat.reduceEqDiff, gr]
            exact ret_done (fb (bad (by simp [okHd, e, okAgg, q2, v1, v2])).symm)
          by_cases v3 : hd.param < 1
          · simp only [↓rA, rB, Nat.reduceAdd, Nat.reduceEqDiff, tbLF0, gr, g2, h5, q2, v3]
            exact ret_done (fb (bad (by simp [okHd, e, okAgg, loP, q2, v1, v2, v3])).symm)
          by_cases v4 : 1073741824 < hd.param
          · simp only [↓rA, rB, Nat.reduceAdd, Nat.reduceEqDiff, tbLF0, gr, g2, h5, q2, v3, v4]
            exact ret_done (fb (bad (by simp [okHd, e, okAgg, loP, hiP, q2, v1, v2, v3, v4])).symm)
          have hoa : okAgg hd = okWin hd.wk hd.ws := by simp [okAgg, loP, hiP, q2, v1, v2, v3, v4]
          by_cases w1 : hd.wk < 1
          · simp only [↓rA, rB, Nat.reduceAdd, Nat.reduceEqDiff, tbLF0, gr, g2, h5, q2, v3, v4, w1]
            exact ret_done (fb (bad (by simp [okHd, e, hoa, okWin, w1])).symm)
          by_cases w2 : 4 < hd.wk
          · simp only [↓rA, rB, Nat.reduceAdd, Nat.reduceEqDiff, tbLF0, gr, g2, h5, q2, v3, v4, w1, w2]
            exact ret_done (fb (bad (by simp [okHd, e, hoa, okWin, w1, w2])).symm)
          by_cases w3 : hd.wk = 1
          · by_cases w4 : hd.ws = 0
            · have hok : okHd hd false = true := by simp [okHd, e, hoa, okWin, w3, w4]
              simp only [↓rA, rB, Int.reduceLT, Nat.reduceAdd, Nat.reduceEqDiff, tbLF0, gr, g2, g5, h5, q2, v3, v4, w3, w4, hok, hw, hm]
              exact ⟨_, Le.nil 2, rfl⟩
            · simp only [↓rA, rB, Int.reduceLT, Nat.reduceAdd, Nat.reduceEqDiff, reduceCtorEq, tbLF0, gr, g2, h5, q2, v3, v4, w3, w4]
              exact ret_done (fb (bad (by simp [okHd, e, hoa, okWin, w3, w4])).symm)
          · by_cases w4 : hd.ws = 0
            · simp only [↓rA, rB, Nat.reduceAdd, Nat.reduceEqDiff, tbLF0, gr, g2, h5, q2, v3, v4, w1, w2, w3, w4]
              exact ret_done (fb (bad (by simp [okHd, e, hoa, okWin, w1, w2, w3, w4])).symm)
            by_cases w5 : hd.ws < 0
            · simp only [↓rA, rB, Nat.reduceAdd, Nat.reduceEqDiff, tbLF0, gr, g2, h5, q2, v3, v4, w1, w2, w3, w4, w5]
              exact ret_done (fb (bad (by simp [okHd, e, hoa, okWin, w1, w2, w3, w4, w5])).symm)
            by_cases w6 : 1099511627776 < hd.ws
            · simp only [↓rA, rB, Nat.reduceAdd, Nat.reduceEqDiff, tbLF0, gr, g2, h5, q2, v3, v4, w1, w2, w3, w4, w5, w6]
              exact ret_done (fb (bad (by simp [okHd, e, hoa, okWin, w1, w2, w3, w4, w5, w6])).symm)
            have hok : okHd hd false = true := by simp [okHd, e, hoa, okWin, w1, w2, w3, w4, w5, w6]
            simp only [↓rA, rB, Nat.reduceAdd, Nat.reduceEqDiff, tbLF0, gr, g2, g5, h5, q2, v3, v4, w1, w2, w3, w4, w5, w6, hok, hw, hm]
            exact ⟨_, Le.nil 2, rfl⟩
        simp only [↓rA, rB, Nat.reduceAdd, Nat.reduceEqDiff, reduceCtorEq, tbLF0, g2, k0, gb, h5, q1, q2]
        refine OkF_of _ (containsS_ok aggL hd.op (by decide)) ?_
        cases v1 : memS aggL hd.op
        · simp only [↓rA, rB, Nat.reduceEqDiff, gr]
          exact ret_done (fb (bad (by simp [okHd, e, okAgg, v1])).symm)
        simp only [↓rA, rB, Nat.reduceAdd, Nat.reduceEqDiff, tbLF0, gr, g2, h5]
        refine OkF_of _ (name_ok hd.table) ?_
        cases v2 : nameB hd.table
        · simp only [↓rA, rB, Nat.reduceEqDiff, gr]
          exact ret_done (fb (bad (by simp [okHd, e, okAgg, v1, v2])).symm)
        by_cases v3 : hd.param < 0
        · simp only [↓rA, rB, Nat.reduceAdd, Nat.reduceEqDiff, tbLF0, gr, g2, h5, v3]
          exact ret_done (fb (bad (by simp [okHd, e, okAgg, loP, q1, q2, v1, v2, v3])).symm)
        by_cases v4 : 0 < hd.param
        · simp only [↓rA, rB, Nat.reduceAdd, Nat.reduceEqDiff, tbLF0, gr, g2, h5, v3, v4]
          exact ret_done (fb (bad (by simp [okHd, e, okAgg, loP, hiP, q1, q2, v1, v2, v3, v4])).symm)
        have hoa : okAgg hd = okWin hd.wk hd.ws := by simp [okAgg, loP, hiP, q1, q2, v1, v2, v3, v4]
        by_cases w1 : hd.wk < 1
        · simp only [↓rA, rB, Nat.reduceAdd, Nat.reduceEqDiff, tbLF0, gr, g2, h5, v3, v4, w1]
          exact ret_done (fb (bad (by simp [okHd, e, hoa, okWin, w1])).symm)
        by_cases w2 : 4 < hd.wk
        · simp only [↓rA, rB, Nat.reduceAdd, Nat.reduceEqDiff, tbLF0, gr, g2, h5, v3, v4, w1, w2]
          exact ret_done (fb (bad (by simp [okHd, e, hoa, okWin, w1, w2])).symm)
        by_cases w3 : hd.wk = 1
        · by_cases w4 : hd.ws = 0
          · have hok : okHd hd false = true := by simp [okHd, e, hoa, okWin, w3, w4]
            simp only [↓rA, rB, Int.reduceLT, Nat.reduceAdd, Nat.reduceEqDiff, tbLF0, gr, g2, g5, h5, v3, v4, w3, w4, hok, hw, hm]
            exact ⟨_, Le.nil 2, rfl⟩
          · simp only [↓rA, rB, Int.reduceLT, Nat.reduceAdd, Nat.reduceEqDiff, reduceCtorEq, tbLF0, gr, g2, h5, v3, v4, w3, w4]
            exact ret_done (fb (bad (by simp [okHd, e, hoa, okWin, w3, w4])).symm)
        · by_cases w4 : hd.ws = 0
          · simp only [↓rA, rB, Nat.reduceAdd, Nat.reduceEqDiff, tbLF0, gr, g2, h5, v3, v4, w1, w2, w3, w4]
            exact ret_done (fb (bad (by simp [okHd, e, hoa, okWin, w1, w2, w3, w4])).symm)
          by_cases w5 : hd.ws < 0
          · simp only [↓rA, rB, Nat.reduceAdd, Nat.reduceEqDiff, tbLF0, gr, g2, h5, v3, v4, w1, w2, w3, w4, w5]
            exact ret_done (fb (bad (by simp [okHd, e, hoa, okWin, w1, w2, w3, w4, w5])).symm)
          by_cases w6 : 1099511627776 < hd.ws
          · simp only [↓rA, rB, Nat.reduceAdd, Nat.reduceEqDiff, tbLF0, gr, g2, h5, v3, v4, w1, w2, w3, w4, w5, w6]
            exact ret_done (fb (bad (by simp [okHd, e, hoa, okWin, w1, w2, w3, w4, w5, w6])).symm)
          have hok : okHd hd false = true := by simp [okHd, e, hoa, okWin, w1, w2, w3, w4, w5, w6]
          simp only [↓rA, rB, Nat.reduceAdd, Nat.reduceEqDiff, tbLF0, gr, g2, g5, h5, v3, v4, w1, w2, w3, w4, w5, w6, hok, hw, hm]
          exact ⟨_, Le.nil 2, rfl⟩
    · simp only [↓rA, rB, Int.reduceEq, Nat.reduceAdd, Nat.reduceEqDiff, Nat.reduceLeDiff, reduceCtorEq, tbLF0, h5, e]
      refine OkF_of _ (containsS_ok unL hd.op (by decide)) ?_
      cases v1 : memS unL hd.op
      · simp only [↓rA, rB, e]
        exact ret_done (fb (bad (by simp [okHd, e, v1])).symm)
      · have hok : okHd hd ins = true := by simp [okHd, e, v1]
        have hw : wantH hd = { hd0 6 with op := hd.op } := by simp [wantH, e]
        have hm : manyH 6 = 1 := rfl
        simp only [↓rA, rB, Int.reduceEq, Nat.reduceEqDiff, e, hok, hw, hm]
        exact ⟨_, Le.nil 2, rfl⟩
    · simp only [↓rA, rB, Int.reduceEq, Nat.reduceAdd, Nat.reduceEqDiff, Nat.reduceLeDiff, reduceCtorEq, tbLF0, h5, e]
      refine OkF_of _ (containsS_ok binL hd.op (by decide)) ?_
      cases v1 : memS binL hd.op
      · simp only [↓rA, rB, e]
        exact ret_done (fb (bad (by simp [okHd, e, v1])).symm)
      · have hok : okHd hd ins = true := by simp [okHd, e, v1]
        have hw : wantH hd = { hd0 7 with op := hd.op } := by simp [wantH, e]
        have hm : manyH 7 = 2 := rfl
        simp only [↓rA, rB, Int.reduceEq, Nat.reduceEqDiff, e, hok, hw, hm]
        exact ⟨_, Le.nil 2, rfl⟩
    · have hok : okHd hd ins = true := by simp [okHd, e]
      have hw : wantH hd = hd0 8 := by simp [wantH, e]
      have hm : manyH 8 = 3 := rfl
      simp only [↓rA, rB, Int.reduceEq, Nat.reduceEqDiff, e, hok, hw, hm]
      exact ⟨_, Le.nil 2, rfl⟩
    · have hok : okHd hd ins = true := by simp [okHd, e]
      have hw : wantH hd = hd0 9 := by simp [wantH, e]
      have hm : manyH 9 = 2 := rfl
      simp only [↓rA, rB, Int.reduceEq, Nat.reduceEqDiff, e, hok, hw, hm]
      exact ⟨_, Le.nil 2, rfl⟩
    · simp only [↓rA, rB, Nat.reduceEqDiff, e]
      exact ret_done (fb (bad (by simp [okHd, e])).symm)
  · rintro S ⟨hok, ⟨u, hle, gb⟩, gr, g2, g5, g1, g6⟩
    have hpm : properE (.mk hd l) ins = (decide (hd = wantH hd) && decide ((l.length : Int) = manyH hd.kind) && properEs l (ins || decide (hd.kind = 5)) && countOk hd l) := by rw [properE_mk, hok]; simp
    simp only [↓rA, rB, Nat.reduceAdd, Nat.reduceEqDiff, tbLF0, gb, g2, g5, h5]
    refine OkF_le (.cons (Le.refl _) (.cons (leHu hle) .nil)) _ (bare_ok hd (wantH hd) l [] hu) ?_
    by_cases c1 : hd = wantH hd
    case neg =>
      simp only [↓rA, rB, Nat.reduceEqDiff, gr, c1]
      exact ret_done (fb (by rw [hpm, decide_eq_false c1]; rfl))
    by_cases c2 : (l.length : Int) = manyH hd.kind
    case neg =>
      simp only [↓rA, rB, Nat.reduceAdd, Nat.reduceEqDiff, tbLF0, gr, g2, g6, h5, decide_eq_true c1, c2, List.length_map]
      exact ret_done (fb (by rw [hpm, decide_eq_false c2]; simp))
    simp only [↓rA, rB, Nat.reduceAdd, Nat.reduceEqDiff, tbLF0, gr, g2, g6, h5, decide_eq_true c1, c2, List.length_map]
    have fin : properEs l (ins || decide (hd.kind = 5)) = false → properE (.mk hd l) ins = false := fun h => by rw [hpm, h]; simp
    refine EX_for Ty.mixed (by kernel_rfl) l.length (fun i S => properEs (l.take i) (ins || decide (hd.kind = 5)) = true ∧ S.boxes = [(b5, .c (cHu (wantH hd) u nilS)), (b2, .c (cH hd (vEs l)))] ∧ S.rows = [] ∧ S.σ 1 = vbool (ins || decide (hd.kind = 5)) ∧ S.σ 2 = ptr b2 ∧ S.σ 186 = vEs l ∧ S.σ 187 = vint (manyH hd.kind) ∧ S.σ 188 = vint i) ⟨0, ?_⟩ (fun i S hi ⟨hq, gb, gr, g1, g2, g186, g187, g188⟩ => ?_) (fun S ⟨hq, gb, gr, g1, g2, g186, g187, g188⟩ => ?_)
    · simp only [rB, Nat.reduceEqDiff, g1, g2]
      exact rfl
    · have hlt : ((i : Int) < manyH hd.kind) := by rw [← c2]; omega
      have hwi := wrap_succ (i := i) (N := l.length) hi (by omega)
      have hx := List.getElem_mem hi
      simp only [↓rA, rB, Nat.reduceAdd, Nat.reduceEqDiff, tbLF0, gb, gr, g186, g187, g188, hlt, Int.ofNat_lt, hi, List.length_map, getD_map _ _ _ hi, cE_eq]
      refine fun b10 h10 => ?_; replace h10 := newb h10; try simp only [Nb] at h10
      simp only [↓rA, rB, Nat.reduceAdd, Nat.reduceEqDiff, tbLF0, gb, g1, getD_map _ _ _ hi]
      have hc := ih l[i] hx (ins || decide (hd.kind = 5)) (ha _ hx)
      rw [vE, cE_eq] at hc
      refine OkF_of _ hc ?_
      cases r1 : properE l[i] (ins || decide (hd.kind = 5))
      · simp only [↓rA, rB, gr]
        refine ret_done (fb (fin ?_).symm)
        cases q : properEs l (ins || decide (hd.kind = 5))
        · rfl
        · rw [(properEs_all l _).1 q _ hx] at r1; cases r1
      · simp only [↓rA, rB, Nat.reduceEqDiff, gr, g1, g2, g186, g187, g188, hwi]
        refine ⟨1, ?_, rfl⟩
        rw [List.take_succ_eq_append_getElem hi, properEs_append, hq]
        simp only [properEs, r1, Bool.and_true]
    · have hlt : ¬ ((l.length : Int) < manyH hd.kind) := by rw [← c2]; omega
      rw [List.take_of_length_le (Nat.le_refl _)] at hq
      have hpc : properE (.mk hd l) ins = countOk hd l := by rw [hpm, decide_eq_true c1, decide_eq_true c2, hq]; simp
      by_cases k1 : hd.op = sCount
      case neg =>
        simp only [↓rA, rB, Nat.reduceAdd, Nat.reduceEqDiff, tbLF0, gb, gr, g2, g187, g188, hlt, k1, h5]
        exact ret_done (fb (by rw [hpc]; simp [countOk, k1]))
      by_cases k2 : hd.kind = 5
      case neg =>
        simp only [↓rA, rB, Nat.reduceAdd, Nat.reduceEqDiff, tbLF0, gb, gr, g2, g187, g188, hlt, k1, k2, h5]
        exact ret_done (fb (by rw [hpc]; simp [countOk, k1, k2]))
      rw [k2] at c2 hlt
      have hl2 : l.length = 2 := by
        have : (l.length : Int) = 2 := c2
        omega
      cases l with
      | nil => cases hl2
      | cons x r =>
      have hlt2 : ¬ (((r.length + 1 : Nat) : Int) < manyH 5) := hlt
      simp only [↓rA, rB, Int.reduceToNat, Nat.reduceAdd, Nat.reduceEqDiff, tbLF0, gb, gr, g2, g187, g188, hlt2, k1, k2, h5, cE_eq]
      refine fun b11 h11 => ?_; replace h11 := newb h11; try simp only [Nb] at h11
      simp only [↓rA, rB, Nat.reduceAdd, Nat.reduceEqDiff, Nat.reduceLeDiff, tbLF0, gb, k2]
      have hx := ha x List.mem_cons_self
      refine OkF_le (.cons (Le.refl _) (.cons (leHu (h := hdTrue) (Le.nil 2)) .nil)) _ (bare_ok x.hd hdTrue x.args [] hx.unit) ?_
      simp only [↓rA, rB]
      exact ret_done (fb (by rw [hpc]; simp [countOk, k1, k2]))
/-- The code of an expression's form. -/
def shapeC (x : E) : Int := if 64 < IntKind.i64.wrap (sizeE x) then 2 else if 12 < depthE x then 2 else if properE x false = true then 0 else 3
set_option linter.defProp false in
def tbLF1 := (aI (aI (aI (aI (aI (aI Ty.sz3 Ty.by3) (aI Ty.ag3 (aI Ty.zr3 Ty.un3))) (aI (aI Ty.sz4 Ty.by4) (aI Ty.ag4 (aI Ty.zr4 Ty.un4)))) (aI (aI (aI Ty.sz9 Ty.by9) (aI Ty.ag9 (aI Ty.zr9 Ty.un9))) (aI (aI Ty.sz28 (aI Ty.by28 Ty.ag28)) (aI Ty.zr28 (aI Ty.fl28_0 Ty.pl28_0))))) (aI (aI (aI (aI Ty.fl28_1 Ty.pl28_1) (aI Ty.fl28_2 (aI Ty.pl28_2 Ty.sz29))) (aI (aI Ty.by29 Ty.ag29) (aI Ty.zr29 (aI Ty.un29 Ty.sz31)))) (aI (aI (aI Ty.by31 Ty.ag31) (aI Ty.zr31 (aI Ty.fl31_0 Ty.pl31_0))) (aI (aI Ty.fl31_1 (aI Ty.pl31_1 Ty.sz32)) (aI Ty.by32 (aI Ty.ag32 Ty.zr32)))))) (aI (aI (aI (aI (aI Ty.un32 Ty.sz34) (aI Ty.by34 (aI Ty.ag34 Ty.zr34))) (aI (aI Ty.fl34_0 Ty.pl34_0) (aI Ty.fl34_1 (aI Ty.pl34_1 Ty.fl34_2)))) (aI (aI (aI Ty.pl34_2 Ty.fl34_3) (aI Ty.pl34_3 (aI Ty.fl34_4 Ty.pl34_4))) (aI (aI Ty.fl34_5 (aI Ty.pl34_5 Ty.fl34_6)) (aI Ty.pl34_6 (aI Ty.fl34_7 Ty.pl34_7))))) (aI (aI (aI (aI Ty.fl34_8 Ty.pl34_8) (aI Ty.sz35 (aI Ty.by35 Ty.ag35))) (aI (aI Ty.zr35 Ty.un35) (aI Ty.sz103 (aI Ty.by103 Ty.ag103)))) (aI (aI (aI Ty.zr103 Ty.fl103_0) (aI Ty.pl103_0 (aI Ty.fl103_1 Ty.pl103_1))) (aI (aI Ty.eq28 (aI Ty.eq31 Ty.eq103)) (aI Ty.cb44 (aI Ty.cb45 Ty.cb46)))))))
theorem shape_ok (x : E) (hf : Fit x) (hb : depthE x ≤ big) : OkP Tryz.prog 27 [vE x] (vint (shapeC x)) := by
  have fi : ∀ {a b : Int}, a = b → V.lit (.int .i64 a) = vint b := fun h => by rw [h]
  have hs := size_ok x hf
  have hd := depth_ok x hf hb
  have hp := proper_ok x false hf
  rw [vE, cE_eq] at hs hd hp ⊢
  refine Ok.of_ex Ty.mixed Tryz.func27 rfl (by simp [Tryz.ntmps27]) (by kernel_rfl) fun F w0 I0 => ?_
  simp only [↓rA, rB]
  refine fun b1 h1 => ?_; replace h1 := newb h1; try simp only [Nb] at h1
  simp only [↓rA, rB, Nat.reduceAdd, Nat.reduceEqDiff, tbLF1]
  refine OkF_of _ hs ?_
  by_cases e1 : 64 < IntKind.i64.wrap (sizeE x)
  · simp only [↓rA, rB, Nat.reduceEqDiff, Tryz.results27, e1]
    exact ret_done (fi (by rw [shapeC, if_pos e1]))
  simp only [↓rA, rB, Nat.reduceAdd, Nat.reduceEqDiff, tbLF1, e1]
  refine OkF_of _ hd ?_
  by_cases e2 : 12 < depthE x
  · have e2' : (12 : Int) < depthE x := by omega
    simp only [↓rA, rB, Nat.reduceEqDiff, Tryz.results27, e2']
    exact ret_done (fi (by rw [shapeC, if_neg e1, if_pos e2]))
  have e2' : ¬ (12 : Int) < depthE x := by omega
  simp only [↓rA, rB, Nat.reduceAdd, Nat.reduceEqDiff, tbLF1, e2']
  refine OkF_of _ hp ?_
  cases e3 : properE x false
  · simp only [↓rA, rB, Tryz.results27]
    exact ret_done (fi (by rw [shapeC, if_neg e1, if_neg e2, if_neg (by rw [e3]; decide)]))
  · simp only [↓rA, rB, Tryz.results27]
    exact ret_done (fi (by rw [shapeC, if_neg e1, if_neg e2, if_pos e3]))
end Go.Proofs.YtphkmlogjgeipaaGreatDoor

/- Contracts of lowering, part f: equality of expressions and nodes. -/
set_option linter.unusedSimpArgs false
set_option maxRecDepth 100000
-- @call 37
namespace Go.Proofs.YtphkmlogjgeipaaGreatDoor
open Go.VL Go.Ar Go.Lo Go.Proofs.YtphkmlogjgeipaaGreatDoor

abbrev fnE : V := .lit (.func (.func 37) #[] #[])
set_option linter.defProp false in
def tbLG0 := (aI (aI (aI (aI (aI (aI Ty.sz3 Ty.by3) (aI Ty.ag3 (aI Ty.zr3 Ty.un3))) (aI (aI Ty.sz4 Ty.by4) (aI Ty.ag4 (aI Ty.zr4 Ty.un4)))) (aI (aI (aI Ty.sz9 Ty.by9) (aI Ty.ag9 (aI Ty.zr9 Ty.un9))) (aI (aI Ty.sz28 Ty.by28) (aI Ty.ag28 (aI Ty.zr28 Ty.fl28_0))))) (aI (aI (aI (aI Ty.pl28_0 Ty.fl28_1) (aI Ty.pl28_1 (aI Ty.fl28_2 Ty.pl28_2))) (aI (aI Ty.sz29 Ty.by29) (aI Ty.ag29 (aI Ty.zr29 Ty.un29)))) (aI (aI (aI Ty.sz31 Ty.by31) (aI Ty.ag31 (aI Ty.zr31 Ty.fl31_0))) (aI (aI Ty.pl31_0 Ty.fl31_1) (aI Ty.pl31_1 (aI Ty.sz32 Ty.by32)))))) (aI (aI (aI (aI (aI Ty.ag32 Ty.zr32) (aI Ty.un32 (aI Ty.sz34 Ty.by34))) (aI (aI Ty.ag34 Ty.zr34) (aI Ty.fl34_0 (aI Ty.pl34_0 Ty.fl34_1)))) (aI (aI (aI Ty.pl34_1 Ty.fl34_2) (aI Ty.pl34_2 (aI Ty.fl34_3 Ty.pl34_3))) (aI (aI Ty.fl34_4 Ty.pl34_4) (aI Ty.fl34_5 (aI Ty.pl34_5 Ty.fl34_6))))) (aI (aI (aI (aI Ty.pl34_6 Ty.fl34_7) (aI Ty.pl34_7 (aI Ty.fl34_8 Ty.pl34_8))) (aI (aI Ty.sz38 Ty.by38) (aI Ty.ag38 (aI Ty.zr38 Ty.sz103)))) (aI (aI (aI Ty.by103 Ty.ag103) (aI Ty.zr103 (aI Ty.fl103_0 Ty.pl103_0))) (aI (aI Ty.fl103_1 (aI Ty.pl103_1 Ty.eq28)) (aI Ty.eq31 (aI Ty.eq103 Ty.cb37)))))))
theorem eqEs_ok (l m : List E) (hl : l.length ≤ big) (h : ∀ x ∈ l, ∀ y, OkP Tryz.prog 37 [vE x, vE y] (vbool (decide (x = y)))) :
    OkP Tryz.prog 55 [vEs l, vEs m, fnE] (vbool (decide (l = m))) := by
  have fb : ∀ {a b : Bool}, a = b → V.lit (.bool a) = vbool b := fun h => by rw [h]
  unfold big at hl
  refine Ok.of_ex Ty.mixed Tryz.func55 rfl (by simp [Tryz.ntmps55]) (by kernel_rfl) fun F w0 I0 => ?_
  by_cases he : ¬ l.length = m.length
  · have he' : ¬ (l.length : Int) = m.length := by omega
    simp only [↓rA, rB, Nat.reduceEqDiff, reduceCtorEq, tbLG0, Tryz.results55, List.length_map, he']
    exact ret_done (fb (decide_eq_false fun e => he (by rw [e])).symm)
  have he' : (l.length : Int) = m.length := by omega
  simp only [↓rA, rB, Nat.reduceEqDiff, reduceCtorEq, tbLG0, Tryz.results55, List.length_map, he']
  refine EX_for Ty.mixed (by kernel_rfl) m.length (fun i S => l.take i = m.take i ∧ S.boxes = [] ∧ S.rows = [] ∧ S.σ 0 = vEs l ∧ S.σ 1 = vEs m ∧ S.σ 2 = fnE ∧ S.σ 15 = vEs l ∧ S.σ 16 = vint m.length ∧ S.σ 17 = vint i) ⟨0, ?_⟩ (fun i S hi ⟨hf, gb, gr, g0, g1, g2, g15, g16, g17⟩ => ?_) (fun S ⟨hf, gb, gr, g0, g1, g2, g15, g16, g17⟩ => ?_)
  · simp only [rB, Nat.reduceEqDiff, reduceCtorEq]
    try exact rfl
  · have hwi := wrap_succ (i := i) (N := m.length) hi (by omega)
    have hil : i < l.length := by omega
    simp only [↓rA, rB, Nat.reduceAdd, Nat.reduceEqDiff, tbLG0, gb, gr, g15, g16, g17, Int.ofNat_lt, hi, hil, List.length_map, getD_map _ _ _ hil, cE_eq]
    refine fun b8 h8 => ?_; replace h8 := newb h8; try simp only [Nb] at h8
    simp only [↓rA, rB, Nat.reduceAdd, Nat.reduceEqDiff, tbLG0, gb, gr, g1, Int.ofNat_lt, hi, List.length_map, getD_map _ _ _ hi, getD_map _ _ _ hil, cE_eq]
    refine fun b9 h9 => ?_; replace h9 := newb h9; try simp only [Nb] at h9
    simp only [↓rA, rB, Nat.reduceAdd, Nat.reduceEqDiff, tbLG0, g2, getD_map _ _ _ hi, getD_map _ _ _ hil, h9]
    have hc := h l[i] (List.getElem_mem hil) m[i]
    simp only [vE, cE_eq] at hc
    refine OkF_of _ hc ?_
    by_cases e : l[i] = m[i]
    · simp only [↓rA, rB, Nat.reduceEqDiff, reduceCtorEq, gr, g0, g1, g2, g15, g16, g17, hwi, e]
      exact ⟨2, by rw [List.take_succ_eq_append_getElem hi, List.take_succ_eq_append_getElem hil, hf, e], rfl⟩
    · simp only [↓rA, rB, gr, e]
      refine ret_done (fb (decide_eq_false fun e' => e ?_).symm)
      subst e'
      rfl
  · simp only [↓rA, rB, gb, gr, g16, g17, Int.ofNat_lt, Nat.lt_irrefl]
    rw [List.take_of_length_le (Nat.le_refl _), List.take_of_length_le (by omega)] at hf
    exact ret_done (fb (decide_eq_true hf).symm)
set_option linter.defProp false in
def tbLG1 := (aI (aI (aI (aI (aI (aI Ty.sz3 Ty.by3) (aI Ty.ag3 (aI Ty.zr3 Ty.un3))) (aI (aI Ty.sz4 Ty.by4) (aI Ty.ag4 (aI Ty.zr4 Ty.un4)))) (aI (aI (aI Ty.sz9 Ty.by9) (aI Ty.ag9 (aI Ty.zr9 Ty.un9))) (aI (aI Ty.sz28 Ty.by28) (aI Ty.ag28 (aI Ty.zr28 Ty.fl28_0))))) (aI (aI (aI (aI Ty.pl28_0 Ty.fl28_1) (aI Ty.pl28_1 (aI Ty.fl28_2 Ty.pl28_2))) (aI (aI Ty.sz29 Ty.by29) (aI Ty.ag29 (aI Ty.zr29 Ty.un29)))) (aI (aI (aI Ty.sz31 Ty.by31) (aI Ty.ag31 (aI Ty.zr31 Ty.fl31_0))) (aI (aI Ty.pl31_0 (aI Ty.fl31_1 Ty.pl31_1)) (aI Ty.sz32 (aI Ty.by32 Ty.ag32)))))) (aI (aI (aI (aI (aI Ty.zr32 Ty.un32) (aI Ty.sz34 (aI Ty.by34 Ty.ag34))) (aI (aI Ty.zr34 Ty.fl34_0) (aI Ty.pl34_0 (aI Ty.fl34_1 Ty.pl34_1)))) (aI (aI (aI Ty.fl34_2 Ty.pl34_2) (aI Ty.fl34_3 (aI Ty.pl34_3 Ty.fl34_4))) (aI (aI Ty.pl34_4 (aI Ty.fl34_5 Ty.pl34_5)) (aI Ty.fl34_6 (aI Ty.pl34_6 Ty.fl34_7))))) (aI (aI (aI (aI Ty.pl34_7 Ty.fl34_8) (aI Ty.pl34_8 (aI Ty.sz38 Ty.by38))) (aI (aI Ty.ag38 Ty.zr38) (aI Ty.sz103 (aI Ty.by103 Ty.ag103)))) (aI (aI (aI Ty.zr103 Ty.fl103_0) (aI Ty.pl103_0 (aI Ty.fl103_1 Ty.pl103_1))) (aI (aI Ty.eq28 (aI Ty.eq31 Ty.eq103)) (aI Ty.cb37 (aI Ty.cb54 Ty.cb55)))))))
theorem sameExpr_ok : ∀ a : E, Fit a → ∀ b : E, OkP Tryz.prog 37 [vE a, vE b] (vbool (decide (a = b))) := by
  have fb : ∀ {a b : Bool}, a = b → V.lit (.bool a) = vbool b := fun h => by rw [h]
  intro x
  induction x using E.ind with
  | h a l ih =>
  intro hf y
  obtain ⟨b, m⟩ := y
  have hu := hf.unit
  have hl := hf.len
  have ha := hf.args
  simp only [E.args, E.hd] at hl ha hu
  have hq := eqEs_ok l m hl fun x hx => ih x hx (ha x hx)
  rw [vE, vE, cE_mk, cE_mk]
  have no : a ≠ b → decide (E.mk a l = E.mk b m) = false := fun h => decide_eq_false fun e => h (by injection e)
  refine Ok.of_ex Ty.mixed Tryz.func37 rfl (by simp [Tryz.ntmps37]) (by kernel_rfl) fun F w0 I0 => ?_
  simp only [↓rA, rB]
  refine fun b1 h1 => ?_; replace h1 := newb h1; try simp only [Nb] at h1
  simp only [↓rA, rB, Nat.reduceEqDiff]
  refine fun b2 h2 => ?_; replace h2 := newb h2; try simp only [Nb] at h2
  by_cases e0 : a.kind = b.kind
  case neg =>
    simp only [↓rA, rB, Nat.reduceAdd, Nat.reduceEqDiff, tbLG1, Tryz.results37, h2, e0]
    exact ret_done (fb (no fun e => e0 (by rw [e])).symm)
  by_cases e1 : a.op = b.op
  case neg =>
    simp only [↓rA, rB, Nat.reduceAdd, Nat.reduceEqDiff, tbLG1, Tryz.results37, h2, e0, e1]
    exact ret_done (fb (no fun e => e1 (by rw [e])).symm)
  by_cases e2 : a.name = b.name
  case neg =>
    simp only [↓rA, rB, Nat.reduceAdd, Nat.reduceEqDiff, tbLG1, Tryz.results37, h2, e0, e1, e2]
    exact ret_done (fb (no fun e => e2 (by rw [e])).symm)
  by_cases e3 : a.table = b.table
  case neg =>
    simp only [↓rA, rB, Nat.reduceAdd, Nat.reduceEqDiff, tbLG1, Tryz.results37, h2, e0, e1, e2, e3]
    exact ret_done (fb (no fun e => e3 (by rw [e])).symm)
  have v4 := valEq a.val b.val
  have v7 := winEq a b
  by_cases e4 : a.val = b.val
  case neg =>
    simp only [↓rA, rB, Nat.reduceAdd, Nat.reduceEqDiff, Nat.reduceLeDiff, tbLG1, Tryz.results37, h2, e0, e1, e2, e3, e4, v4]
    exact ret_done (fb (no fun e => e4 (by rw [e])).symm)
  simp only [↓rA, rB, Nat.reduceAdd, Nat.reduceEqDiff, Nat.reduceLeDiff, tbLG1, h2, e0, e1, e2, e3, e4]
  refine OkF_of _ (eqFacs_ok a.unit b.unit hu) ?_
  by_cases e5 : a.unit = b.unit
  case neg =>
    simp only [↓rA, rB, Nat.reduceEqDiff, Tryz.results37, e5]
    exact ret_done (fb (no fun e => e5 (by rw [e])).symm)
  by_cases e6 : a.param = b.param
  case neg =>
    simp only [↓rA, rB, Nat.reduceAdd, Nat.reduceEqDiff, tbLG1, Tryz.results37, h2, e5, e6]
    exact ret_done (fb (no fun e => e6 (by rw [e])).symm)
  by_cases e7 : a.wk = b.wk ∧ a.ws = b.ws
  case neg =>
    simp only [↓rA, rB, Nat.reduceAdd, Nat.reduceEqDiff, Nat.reduceLeDiff, tbLG1, Tryz.results37, h2, e5, e6, e7, v7]
    exact ret_done (fb (no fun e => e7 (by rw [e]; exact ⟨rfl, rfl⟩)).symm)
  simp only [↓rA, rB, Nat.reduceAdd, Nat.reduceEqDiff, Nat.reduceLeDiff, tbLG1, h2, e5, e6, e7]
  refine OkF_of _ hq ?_
  simp only [↓rA, rB, Nat.reduceEqDiff, Tryz.results37]
  refine ret_done (fb ?_)
  have hab : a = b := by rw [hd_ext]; exact ⟨e0, e1, e2, e3, by rw [e4]; exact ⟨rfl, rfl, rfl⟩, e5, e6, e7.1, e7.2⟩
  subst hab
  rw [Bool.eq_iff_iff, decide_eq_true_eq, decide_eq_true_eq]
  exact ⟨fun e => by rw [e], fun e => by injection e⟩
set_option linter.defProp false in
def tbLG2 := (aI (aI (aI (aI Ty.sz3 Ty.by3) (aI Ty.ag3 Ty.zr3)) (aI (aI Ty.un3 Ty.sz4) (aI Ty.by4 Ty.ag4))) (aI (aI (aI Ty.zr4 Ty.un4) (aI Ty.sz45 Ty.by45)) (aI (aI Ty.ag45 Ty.zr45) (aI Ty.un45 Ty.cb37))))
theorem eqInts_ok (l m : List Int) (hl : l.length ≤ big) : OkP Tryz.prog 36 [vints l, vints m] (vbool (decide (l = m))) := by
  have fb : ∀ {a b : Bool}, a = b → V.lit (.bool a) = vbool b := fun h => by rw [h]
  unfold big at hl
  refine Ok.of_ex Ty.mixed Tryz.func36 rfl (by simp [Tryz.ntmps36]) (by kernel_rfl) fun F w0 I0 => ?_
  by_cases he : ¬ l.length = m.length
  · have he' : ¬ (l.length : Int) = m.length := by omega
    simp only [↓rA, rB, Nat.reduceEqDiff, reduceCtorEq, tbLG2, Tryz.results36, List.length_map, he']
    exact ret_done (fb (decide_eq_false fun e => he (by rw [e])).symm)
  have he' : (l.length : Int) = m.length := by omega
  simp only [↓rA, rB, Nat.reduceEqDiff, reduceCtorEq, tbLG2, Tryz.results36, List.length_map, he']
  refine EX_for Ty.mixed (by kernel_rfl) m.length (fun i S => l.take i = m.take i ∧ S.boxes = [] ∧ S.rows = [] ∧ S.σ 0 = vints l ∧ S.σ 1 = vints m ∧ S.σ 12 = vint m.length ∧ S.σ 13 = vint i) ⟨0, ?_⟩ (fun i S hi ⟨hf, gb, gr, g0, g1, g12, g13⟩ => ?_) (fun S ⟨hf, gb, gr, g0, g1, g12, g13⟩ => ?_)
  · simp only [rB, Nat.reduceEqDiff, reduceCtorEq]
    try exact rfl
  · have hwi := wrap_succ (i := i) (N := m.length) hi (by omega)
    have hil : i < l.length := by omega
    by_cases e : l[i] = m[i]
    · simp only [↓rA, rB, Nat.reduceEqDiff, reduceCtorEq, tbLG2, gb, gr, g0, g1, g12, g13, Int.ofNat_lt, hi, hil, List.length_map, getD_map _ _ _ hi, getD_map _ _ _ hil, e, hwi]
      exact ⟨0, by rw [List.take_succ_eq_append_getElem hi, List.take_succ_eq_append_getElem hil, hf, e]⟩
    · simp only [↓rA, rB, Nat.reduceEqDiff, reduceCtorEq, tbLG2, gb, gr, g0, g1, g12, g13, Int.ofNat_lt, hi, hil, List.length_map, getD_map _ _ _ hi, getD_map _ _ _ hil, e]
      refine ret_done (fb (decide_eq_false fun e' => e ?_).symm)
      subst e'
      rfl
  · simp only [↓rA, rB, gb, gr, g12, g13, Int.ofNat_lt, Nat.lt_irrefl]
    rw [List.take_of_length_le (Nat.le_refl _), List.take_of_length_le (by omega)] at hf
    exact ret_done (fb (decide_eq_true hf).symm)
/-- A node whose lists fit. -/
def FitN (n : Nd) : Prop := Fit n.expr ∧ n.inn.length ≤ big
theorem nd_ext (a b : Nd) : (a = b) = (a.kind = b.kind ∧ a.table = b.table ∧ a.op = b.op ∧ a.param = b.param ∧ (a.wk = b.wk ∧ a.ws = b.ws) ∧ a.val = b.val ∧ a.name = b.name ∧ a.inn = b.inn ∧ a.expr = b.expr) := by
  cases a; cases b; simp only [Nd.mk.injEq, eq_iff_iff]
  exact ⟨fun ⟨a, b, c, d, e, f, g, h, i, j⟩ => ⟨a, b, d, e, ⟨f, g⟩, h, i, j, c⟩, fun ⟨a, b, d, e, ⟨f, g⟩, h, i, j, c⟩ => ⟨a, b, c, d, e, f, g, h, i, j⟩⟩
theorem winEqN (a b : Nd) : (decide (a.wk = b.wk) && decide (a.ws = b.ws)) = decide (a.wk = b.wk ∧ a.ws = b.ws) := by
  rw [Bool.eq_iff_iff]; simp
set_option linter.defProp false in
def tbLG3 := (aI (aI (aI (aI (aI (aI Ty.sz3 (aI Ty.by3 Ty.ag3)) (aI Ty.zr3 (aI Ty.un3 Ty.sz4))) (aI (aI Ty.by4 (aI Ty.ag4 Ty.zr4)) (aI (aI Ty.un4 Ty.sz9) (aI Ty.by9 Ty.ag9)))) (aI (aI (aI Ty.zr9 (aI Ty.un9 Ty.sz28)) (aI Ty.by28 (aI Ty.ag28 Ty.zr28))) (aI (aI Ty.fl28_0 (aI Ty.pl28_0 Ty.fl28_1)) (aI (aI Ty.pl28_1 Ty.fl28_2) (aI Ty.pl28_2 Ty.sz29))))) (aI (aI (aI (aI Ty.by29 (aI Ty.ag29 Ty.zr29)) (aI Ty.un29 (aI Ty.sz31 Ty.by31))) (aI (aI Ty.ag31 (aI Ty.zr31 Ty.fl31_0)) (aI (aI Ty.pl31_0 Ty.fl31_1) (aI Ty.pl31_1 Ty.sz32)))) (aI (aI (aI Ty.by32 (aI Ty.ag32 Ty.zr32)) (aI Ty.un32 (aI Ty.sz34 Ty.by34))) (aI (aI Ty.ag34 (aI Ty.zr34 Ty.fl34_0)) (aI (aI Ty.pl34_0 Ty.fl34_1) (aI Ty.pl34_1 Ty.fl34_2)))))) (aI (aI (aI (aI (aI Ty.pl34_2 (aI Ty.fl34_3 Ty.pl34_3)) (aI Ty.fl34_4 (aI Ty.pl34_4 Ty.fl34_5))) (aI (aI Ty.pl34_5 (aI Ty.fl34_6 Ty.pl34_6)) (aI (aI Ty.fl34_7 Ty.pl34_7) (aI Ty.fl34_8 Ty.pl34_8)))) (aI (aI (aI Ty.sz45 (aI Ty.by45 Ty.ag45)) (aI Ty.zr45 (aI Ty.un45 Ty.sz47))) (aI (aI Ty.by47 (aI Ty.ag47 Ty.zr47)) (aI (aI Ty.fl47_0 Ty.pl47_0) (aI Ty.fl47_1 Ty.pl47_1))))) (aI (aI (aI (aI Ty.fl47_2 (aI Ty.pl47_2 Ty.fl47_3)) (aI Ty.pl47_3 (aI Ty.fl47_4 Ty.pl47_4))) (aI (aI Ty.fl47_5 (aI Ty.pl47_5 Ty.fl47_6)) (aI (aI Ty.pl47_6 Ty.fl47_7) (aI Ty.pl47_7 Ty.fl47_8)))) (aI (aI (aI Ty.pl47_8 (aI Ty.sz103 Ty.by103)) (aI (aI Ty.ag103 Ty.zr103) (aI Ty.fl103_0 Ty.pl103_0))) (aI (aI Ty.fl103_1 (aI Ty.pl103_1 Ty.eq28)) (aI (aI Ty.eq31 Ty.eq103) (aI Ty.cb36 Ty.cb37)))))))
theorem sameNode_ok (a b : Nd) (hf : FitN a) : OkP Tryz.prog 20 [.agg (cNd a), .agg (cNd b)] (vbool (decide (a = b))) := by
  have fb : ∀ {a b : Bool}, a = b → V.lit (.bool a) = vbool b := fun h => by rw [h]
  have hq := sameExpr_ok a.expr hf.1 b.expr
  simp only [vE, cE_eq] at hq
  simp only [cNd_eq]
  refine Ok.of_ex Ty.mixed Tryz.func20 rfl (by simp [Tryz.ntmps20]) (by kernel_rfl) fun F w0 I0 => ?_
  simp only [↓rA, rB]
  refine fun b1 h1 => ?_; replace h1 := newb h1; try simp only [Nb] at h1
  simp only [↓rA, rB, Nat.reduceEqDiff]
  refine fun b2 h2 => ?_; replace h2 := newb h2; try simp only [Nb] at h2
  by_cases e0 : a.kind = b.kind
  case neg =>
    simp only [↓rA, rB, Nat.reduceAdd, Nat.reduceEqDiff, tbLG3, Tryz.results20, h2, e0]
    exact ret_done (fb (decide_eq_false fun e => e0 (by rw [e])).symm)
  by_cases e1 : a.table = b.table
  case neg =>
    simp only [↓rA, rB, Nat.reduceAdd, Nat.reduceEqDiff, tbLG3, Tryz.results20, h2, e0, e1]
    exact ret_done (fb (decide_eq_false fun e => e1 (by rw [e])).symm)
  by_cases e2 : a.op = b.op
  case neg =>
    simp only [↓rA, rB, Nat.reduceAdd, Nat.reduceEqDiff, tbLG3, Tryz.results20, h2, e0, e1, e2]
    exact ret_done (fb (decide_eq_false fun e => e2 (by rw [e])).symm)
  by_cases e3 : a.param = b.param
  case neg =>
    simp only [↓rA, rB, Nat.reduceAdd, Nat.reduceEqDiff, tbLG3, Tryz.results20, h2, e0, e1, e2, e3]
    exact ret_done (fb (decide_eq_false fun e => e3 (by rw [e])).symm)
  have v4 := winEqN a b
  have v5 := valEq a.val b.val
  by_cases e4 : a.wk = b.wk ∧ a.ws = b.ws
  case neg =>
    simp only [↓rA, rB, Nat.reduceAdd, Nat.reduceEqDiff, Nat.reduceLeDiff, tbLG3, Tryz.results20, h2, e0, e1, e2, e3, e4, v4]
    exact ret_done (fb (decide_eq_false fun e => e4 (by rw [e]; exact ⟨rfl, rfl⟩)).symm)
  by_cases e5 : a.val = b.val
  case neg =>
    simp only [↓rA, rB, Nat.reduceAdd, Nat.reduceEqDiff, Nat.reduceLeDiff, tbLG3, Tryz.results20, h2, e0, e1, e2, e3, e4, e5, v5]
    exact ret_done (fb (decide_eq_false fun e => e5 (by rw [e])).symm)
  by_cases e6 : a.name = b.name
  case neg =>
    simp only [↓rA, rB, Nat.reduceAdd, Nat.reduceEqDiff, Nat.reduceLeDiff, tbLG3, Tryz.results20, h2, e0, e1, e2, e3, e4, e5, e6]
    exact ret_done (fb (decide_eq_false fun e => e6 (by rw [e])).symm)
  simp only [↓rA, rB, Nat.reduceAdd, Nat.reduceEqDiff, Nat.reduceLeDiff, tbLG3, h2, e0, e1, e2, e3, e4, e5, e6]
  refine OkF_of _ (eqInts_ok a.inn b.inn hf.2) ?_
  by_cases e7 : a.inn = b.inn
  case neg =>
    simp only [↓rA, rB, Nat.reduceEqDiff, Tryz.results20, e7]
    exact ret_done (fb (decide_eq_false fun e => e7 (by rw [e])).symm)
  simp only [↓rA, rB, Nat.reduceAdd, Nat.reduceEqDiff, Nat.reduceLeDiff, tbLG3, h2, e7]
  refine OkF_of _ hq ?_
  simp only [↓rA, rB, Nat.reduceEqDiff, Tryz.results20]
  refine ret_done (fb ?_)
  rw [Bool.eq_iff_iff, decide_eq_true_eq, decide_eq_true_eq, nd_ext]
  exact ⟨fun e => ⟨e0, e1, e2, e3, e4, e5, e6, e7, e⟩, fun e => e.2.2.2.2.2.2.2.2⟩
end Go.Proofs.YtphkmlogjgeipaaGreatDoor

/- Lowering: the model. -/
namespace Go.Lo
open Go.VL Go.Ar
/-! ### The model of lowering -/
noncomputable def idxM : List Nd → Nd → Nat
  | [], _ => 0
  | y :: r, x => if x = y then 0 else idxM r x + 1
theorem idxM_at {x : Nd} : ∀ {L : List Nd} {i : Nat} (hi : i < L.length), (∀ j (h : j < L.length), j < i → x ≠ L[j]) → x = L[i] → idxM L x = i
  | y :: r, 0, _, _, e => by simp only [idxM]; exact if_pos e
  | y :: r, i + 1, hi, h, e => by
    have h0 : ¬ x = y := h 0 (by simp) (by omega)
    simp only [idxM]
    rw [if_neg h0, idxM_at (L := r) (i := i) (by simpa using hi) (fun j hj hlt => h (j + 1) (by simpa using hj) (by omega)) e]
theorem idxM_not {x : Nd} : ∀ {L : List Nd}, (∀ j (h : j < L.length), x ≠ L[j]) → idxM L x = L.length
  | [], _ => rfl
  | y :: r, h => by
    have h0 : ¬ x = y := h 0 (by simp)
    simp only [idxM]
    rw [if_neg h0, idxM_not (L := r) fun j hj => h (j + 1) (by simpa using hj)]
    rfl
theorem idxM_get {x : Nd} : ∀ {L : List Nd}, x ∈ L → ∃ h : idxM L x < L.length, L[idxM L x] = x
  | y :: r, h => by
    by_cases e : x = y
    · subst e
      exact ⟨by simp [idxM], by simp [idxM]⟩
    · have hr : x ∈ r := by
        rcases List.mem_cons.1 h with h | h
        · exact absurd h e
        · exact h
      obtain ⟨h1, h2⟩ := idxM_get hr
      have : idxM (y :: r) x = idxM r x + 1 := by simp only [idxM]; rw [if_neg e]
      refine ⟨by rw [this]; simpa using h1, ?_⟩
      simp only [this, List.getElem_cons_succ, h2]
noncomputable def putM (l : List Nd) (n : Nd) : List Nd × Nat := (if n ∈ l then l else l ++ [n], idxM l n)
noncomputable def overM (l : List Nd) (h : Hd) (a c : E) : List Nd × Nat :=
  let p := putM l { nd0 1 with table := h.table }
  let q := putM p.1 { nd0 2 with expr := c, inn := [(p.2 : Int)] }
  let r := putM q.1 { nd0 3 with expr := a, inn := [(q.2 : Int)] }
  putM r.1 { nd0 4 with op := h.op, param := h.param, wk := h.wk, ws := h.ws, inn := [(r.2 : Int)] }
abbrev sIf : Str := ⟨#[105, 102]⟩
abbrev sDefault : Str := ⟨#[100, 101, 102, 97, 117, 108, 116]⟩
/-- The node of an expression that is no aggregate, without In. -/
def ownM (h : Hd) (l : List E) : Nd :=
  if h.kind = 1 then { nd0 5 with val := h.val, expr := .mk h l }
  else if h.kind = 3 then { nd0 6 with name := h.name }
  else if h.kind = 4 then { nd0 7 with name := h.name }
  else if h.kind = 8 then { nd0 8 with op := sIf }
  else if h.kind = 9 then { nd0 8 with op := sDefault }
  else { nd0 8 with op := h.op }
noncomputable def aggM (l : List Nd) (h : Hd) (al : List E) : List Nd × Nat := match al with | a :: c :: _ => overM l h a c | _ => (l, 0)
mutual
noncomputable def lowE (l : List Nd) : E → List Nd × Nat
  | .mk h al => if h.kind = 5 then aggM l h al
    else putM (lowEs l al).1 { ownM h al with inn := (lowEs l al).2 }
noncomputable def lowEs (l : List Nd) : List E → List Nd × List Int
  | [] => (l, [])
  | x :: r => ((lowEs (lowE l x).1 r).1, ((lowE l x).2 : Int) :: (lowEs (lowE l x).1 r).2)
end
end Go.Lo

/- Contracts of lowering, part g: the shared list of nodes. -/
set_option linter.unusedSimpArgs false
set_option maxRecDepth 100000
-- @call 20 48
namespace Go.Proofs.YtphkmlogjgeipaaGreatDoor
open Go.VL Go.Ar Go.Lo Go.Proofs.YtphkmlogjgeipaaGreatDoor

abbrev fnN : V := .lit (.func (.func 20) #[] #[])
abbrev fnP (b2 b3 : Nat) : V := .lit (.func (.func 48) #[] #[.pointer (some ⟨b2, 0, none⟩), .pointer (some ⟨b3, 0, none⟩)])
set_option linter.defProp false in
def tbLH0 := (aI (aI (aI (aI (aI (aI Ty.sz3 (aI Ty.by3 Ty.ag3)) (aI (aI Ty.zr3 Ty.un3) (aI Ty.sz4 Ty.by4))) (aI (aI (aI Ty.ag4 Ty.zr4) (aI Ty.un4 Ty.sz9)) (aI (aI Ty.by9 Ty.ag9) (aI Ty.zr9 Ty.un9)))) (aI (aI (aI (aI Ty.sz22 Ty.by22) (aI Ty.ag22 Ty.zr22)) (aI (aI Ty.un22 Ty.sz28) (aI Ty.by28 Ty.ag28))) (aI (aI (aI Ty.zr28 Ty.fl28_0) (aI Ty.pl28_0 Ty.fl28_1)) (aI (aI Ty.pl28_1 Ty.fl28_2) (aI Ty.pl28_2 Ty.sz29))))) (aI (aI (aI (aI (aI Ty.by29 Ty.ag29) (aI Ty.zr29 Ty.un29)) (aI (aI Ty.sz31 Ty.by31) (aI Ty.ag31 Ty.zr31))) (aI (aI (aI Ty.fl31_0 Ty.pl31_0) (aI Ty.fl31_1 Ty.pl31_1)) (aI (aI Ty.sz32 Ty.by32) (aI Ty.ag32 Ty.zr32)))) (aI (aI (aI (aI Ty.un32 Ty.sz34) (aI Ty.by34 Ty.ag34)) (aI (aI Ty.zr34 Ty.fl34_0) (aI Ty.pl34_0 Ty.fl34_1))) (aI (aI (aI Ty.pl34_1 Ty.fl34_2) (aI Ty.pl34_2 Ty.fl34_3)) (aI (aI Ty.pl34_3 Ty.fl34_4) (aI Ty.pl34_4 Ty.fl34_5)))))) (aI (aI (aI (aI (aI (aI Ty.pl34_5 Ty.fl34_6) (aI Ty.pl34_6 Ty.fl34_7)) (aI (aI Ty.pl34_7 Ty.fl34_8) (aI Ty.pl34_8 Ty.sz45))) (aI (aI (aI Ty.by45 Ty.ag45) (aI Ty.zr45 Ty.un45)) (aI (aI Ty.sz47 Ty.by47) (aI Ty.ag47 Ty.zr47)))) (aI (aI (aI (aI Ty.fl47_0 Ty.pl47_0) (aI Ty.fl47_1 Ty.pl47_1)) (aI (aI Ty.fl47_2 Ty.pl47_2) (aI Ty.fl47_3 Ty.pl47_3))) (aI (aI (aI Ty.fl47_4 Ty.pl47_4) (aI Ty.fl47_5 Ty.pl47_5)) (aI (aI Ty.fl47_6 Ty.pl47_6) (aI Ty.fl47_7 Ty.pl47_7))))) (aI (aI (aI (aI (aI Ty.fl47_8 Ty.pl47_8) (aI Ty.sz67 Ty.by67)) (aI (aI Ty.ag67 Ty.zr67) (aI Ty.sz72 Ty.by72))) (aI (aI (aI Ty.ag72 Ty.zr72) (aI Ty.un72 Ty.sz74)) (aI (aI Ty.by74 Ty.ag74) (aI Ty.zr74 Ty.fl74_0)))) (aI (aI (aI (aI Ty.pl74_0 Ty.fl74_1) (aI Ty.pl74_1 Ty.sz103)) (aI (aI Ty.by103 Ty.ag103) (aI Ty.zr103 Ty.fl103_0))) (aI (aI (aI Ty.pl103_0 Ty.fl103_1) (aI Ty.pl103_1 Ty.eq28)) (aI (aI Ty.eq31 Ty.eq103) (aI Ty.cb20 Ty.cb48)))))))
theorem put1_ok (x y : Nd) (hf : FitN x) (s b2 b3 : Nat) (sl : V) (_hs : okC [sl] = true) (h1 : b3 ≠ b2 ∧ b2 ≠ b3) (h2 : b3 ≠ s ∧ s ≠ b3) (h3 : b2 ≠ s ∧ s ≠ b2) :
    Ok Tryz.prog 48 [.agg (cNd y), ptr b2, ptr b3] [(b3, .c (cNd x)), (b2, .c [ptr s]), (s, .c [sl, fnN])] fun v bs rs => v = vbool (decide (x = y)) ∧ bs = [(b3, .c (cNd x)), (b2, .c [ptr s]), (s, .c [sl, fnN])] ∧ rs = [] := by
  have hq := sameNode_ok x y hf
  simp only [cNd_eq] at hq ⊢
  refine Ok.of_exM [(1, 0)] Ty.mixed Tryz.func48 rfl (by simp [Tryz.ntmps48]) (by kernel_rfl) fun F w0 I0 => ?_
  simp only [↓rA, rB]
  refine fun b4 h4 => ?_; replace h4 := newb h4; try simp only [Nb] at h4
  simp only [↓rA, rB, Nat.reduceAdd, Nat.reduceEqDiff, tbLH0, h1, h2, h3, h4]
  refine CallV_of _ hq.v ?_
  simp only [↓rA, rB, Tryz.results48]
  exact ⟨_, [_, _, _], [], Le.refl _, List.Sublist.cons _ (List.Sublist.refl _), List.nil_sublist _, rfl, rfl, rfl⟩

theorem nds_len (l : List Nd) : ((l.map cNd).flatten).length = l.length * 23 := by
  induction l with
  | nil => rfl
  | cons x l ih => simp only [List.map_cons, List.flatten_cons, List.length_append, ih, cNd_len, List.length_cons, Nat.add_mul]; omega
theorem nd_cells (l : List Nd) (i : Nat) (hi : i < l.length) (rest : List V) : ∃ A B : List V, A.length = i * 23 ∧ (l.map cNd).flatten ++ rest = A ++ (cNd l[i] ++ B) := by
  refine ⟨((l.take i).map cNd).flatten, ((l.drop (i + 1)).map cNd).flatten ++ rest, ?_, ?_⟩
  · rw [nds_len, List.length_take, Nat.min_eq_left (by omega)]
  · conv => lhs; rw [← List.take_append_drop i l, List.drop_eq_getElem_cons hi]
    simp only [List.map_append, List.map_cons, List.flatten_append, List.flatten_cons, List.append_assoc]
theorem dropL {α : Type} {A B : List α} {n : Nat} (h : A.length = n) : (A ++ B).drop n = B := List.drop_left' h
abbrev slN (g n c : Nat) : V := .lit (.slice (some ⟨g, 0, none⟩) n c)
abbrev bN (L : List Nd) (rest : List V) : B := .c ((L.map cNd).flatten ++ rest)
noncomputable def idxI (L : List Nd) (x : Nd) : Int := if x ∈ L then (idxM L x : Int) else -1
set_option linter.defProp false in
def tbLH1 := (aI (aI (aI (aI (aI (aI Ty.sz3 (aI Ty.by3 Ty.ag3)) (aI (aI Ty.zr3 Ty.un3) (aI Ty.sz4 Ty.by4))) (aI (aI Ty.ag4 (aI Ty.zr4 Ty.un4)) (aI (aI Ty.sz9 Ty.by9) (aI Ty.ag9 Ty.zr9)))) (aI (aI (aI Ty.un9 (aI Ty.sz22 Ty.by22)) (aI (aI Ty.ag22 Ty.zr22) (aI Ty.un22 Ty.sz28))) (aI (aI Ty.by28 (aI Ty.ag28 Ty.zr28)) (aI (aI Ty.fl28_0 Ty.pl28_0) (aI Ty.fl28_1 Ty.pl28_1))))) (aI (aI (aI (aI Ty.fl28_2 (aI Ty.pl28_2 Ty.sz29)) (aI (aI Ty.by29 Ty.ag29) (aI Ty.zr29 Ty.un29))) (aI (aI Ty.sz31 (aI Ty.by31 Ty.ag31)) (aI (aI Ty.zr31 Ty.fl31_0) (aI Ty.pl31_0 Ty.fl31_1)))) (aI (aI (aI Ty.pl31_1 (aI Ty.sz32 Ty.by32)) (aI (aI Ty.ag32 Ty.zr32) (aI Ty.un32 Ty.sz34))) (aI (aI (aI Ty.by34 Ty.ag34) (aI Ty.zr34 Ty.fl34_0)) (aI (aI Ty.pl34_0 Ty.fl34_1) (aI Ty.pl34_1 Ty.fl34_2)))))) (aI (aI (aI (aI (aI Ty.pl34_2 (aI Ty.fl34_3 Ty.pl34_3)) (aI (aI Ty.fl34_4 Ty.pl34_4) (aI Ty.fl34_5 Ty.pl34_5))) (aI (aI Ty.fl34_6 (aI Ty.pl34_6 Ty.fl34_7)) (aI (aI Ty.pl34_7 Ty.fl34_8) (aI Ty.pl34_8 Ty.sz45)))) (aI (aI (aI Ty.by45 (aI Ty.ag45 Ty.zr45)) (aI (aI Ty.un45 Ty.sz47) (aI Ty.by47 Ty.ag47))) (aI (aI Ty.zr47 (aI Ty.fl47_0 Ty.pl47_0)) (aI (aI Ty.fl47_1 Ty.pl47_1) (aI Ty.fl47_2 Ty.pl47_2))))) (aI (aI (aI (aI Ty.fl47_3 (aI Ty.pl47_3 Ty.fl47_4)) (aI (aI Ty.pl47_4 Ty.fl47_5) (aI Ty.pl47_5 Ty.fl47_6))) (aI (aI Ty.pl47_6 (aI Ty.fl47_7 Ty.pl47_7)) (aI (aI Ty.fl47_8 Ty.pl47_8) (aI Ty.sz93 Ty.by93)))) (aI (aI (aI Ty.ag93 (aI Ty.zr93 Ty.sz103)) (aI (aI Ty.by103 Ty.ag103) (aI Ty.zr103 Ty.fl103_0))) (aI (aI (aI Ty.pl103_0 Ty.fl103_1) (aI Ty.pl103_1 Ty.eq28)) (aI (aI Ty.eq31 Ty.eq103) (aI Ty.cb20 Ty.cb48)))))))
theorem indexNd_ok (x : Nd) (hf : FitN x) (L : List Nd) (hL : L.length ≤ big) (s b2 b3 g c : Nat) (rest : List V) (h1 : b3 ≠ b2 ∧ b2 ≠ b3) (h2 : b3 ≠ s ∧ s ≠ b3) (h3 : b2 ≠ s ∧ s ≠ b2) (h4 : b3 ≠ g ∧ g ≠ b3) (h5 : b2 ≠ g ∧ g ≠ b2) (h6 : s ≠ g ∧ g ≠ s) :
    Ok Tryz.prog 47 [slN g L.length c, fnP b2 b3] [(b3, .c (cNd x)), (b2, .c [ptr s]), (s, .c [slN g L.length c, fnN]), (g, bN L rest)]
      fun v bs rs => v = vint (idxI L x) ∧ bs = [(b3, .c (cNd x)), (b2, .c [ptr s]), (s, .c [slN g L.length c, fnN]), (g, bN L rest)] ∧ rs = [] := by
  unfold big at hL
  refine Ok.of_ex Ty.mixed Tryz.func47 rfl (by simp [Tryz.ntmps47]) (by kernel_rfl) fun F w0 I0 => ?_
  simp only [↓rA, rB, reduceCtorEq, tbLH1, Tryz.results47]
  refine EX_for Ty.mixed (by kernel_rfl) L.length (fun i S => (∀ j (h : j < L.length), j < i → x ≠ L[j]) ∧ S.boxes = [(b3, .c (cNd x)), (b2, .c [ptr s]), (s, .c [slN g L.length c, fnN]), (g, bN L rest)] ∧ S.rows = [] ∧ S.σ 0 = slN g L.length c ∧ S.σ 1 = fnP b2 b3 ∧ S.σ 7 = vint L.length ∧ S.σ 8 = vint i) ⟨0, ?_⟩ (fun i S hi ⟨hn, gb, gr, g0, g1, g7, g8⟩ => ?_) (fun S ⟨hn, gb, gr, g0, g1, g7, g8⟩ => ?_)
  · simp only [rB, Nat.reduceEqDiff, reduceCtorEq]
    exact fun j _ h => absurd h (Nat.not_lt_zero j)
  · have hwi := wrap_succ (i := i) (N := L.length) hi (by omega)
    obtain ⟨A, Bx, hA, e⟩ := nd_cells L i hi rest
    unfold bN at gb
    rw [e] at gb
    simp only [↓rA, rB, Nat.reduceEqDiff, Nat.reduceLeDiff, reduceCtorEq, tbLH1, gb, g0, g1, g7, g8, h4, h5, h6, Int.ofNat_lt, hi, dropL hA, cNd_eq L[i]]
    have hp := put1_ok x L[i] hf s b2 b3 (slN g L.length c) rfl h1 h2 h3
    rw [cNd_eq L[i]] at hp
    refine OkF_with [_, _, _] [_] (List.Perm.refl _) hp ?_
    rintro v bs rs ⟨rfl, rfl, rfl⟩
    by_cases hx : x = L[i]
    · have hm : x ∈ L := hx ▸ List.getElem_mem hi
      have he : vint i = vint (idxI L x) := congrArg (fun n => V.lit (.int .i64 n)) (by rw [idxI, if_pos hm, idxM_at hi hn hx])
      have hd : decide (x = L[i]) = true := decide_eq_true hx
      simp only [↓rA, rB, Nat.reduceEqDiff, gr, hd]
      exact ⟨_, _, [], Le.refl _, List.Sublist.refl _, List.nil_sublist _, he, by rw [bN, e, cNd_eq L[i]]; rfl, rfl⟩
    · have hd : decide (x = L[i]) = false := decide_eq_false hx
      simp only [↓rA, rB, Nat.reduceEqDiff, reduceCtorEq, gr, g0, g1, g7, g8, hd, hwi]
      refine ⟨0, fun j h hj => ?_, by rw [bN, e, cNd_eq L[i]]; rfl⟩
      by_cases hji : j = i
      · subst hji; exact hx
      · exact hn j h (by omega)
  · simp only [↓rA, rB, gb, gr, g7, g8, Int.ofNat_lt, Nat.lt_irrefl]
    have hm : x ∉ L := fun hm => by
      obtain ⟨j, hj, e⟩ := List.getElem_of_mem hm
      exact hn j hj hj e.symm
    exact ⟨_, _, [], Le.refl _, List.Sublist.refl _, List.nil_sublist _, congrArg (fun n => V.lit (.int .i64 n)) (by rw [idxI, if_neg hm]), rfl, rfl⟩
set_option linter.defProp false in
def tbLH2 := (aI (aI (aI (aI (aI (aI Ty.sz3 (aI Ty.by3 Ty.ag3)) (aI (aI Ty.zr3 Ty.un3) (aI Ty.sz4 Ty.by4))) (aI (aI Ty.ag4 (aI Ty.zr4 Ty.un4)) (aI (aI Ty.sz9 Ty.by9) (aI Ty.ag9 Ty.zr9)))) (aI (aI (aI Ty.un9 (aI Ty.sz22 Ty.by22)) (aI (aI Ty.ag22 Ty.zr22) (aI Ty.un22 Ty.sz28))) (aI (aI Ty.by28 (aI Ty.ag28 Ty.zr28)) (aI (aI Ty.fl28_0 Ty.pl28_0) (aI Ty.fl28_1 Ty.pl28_1))))) (aI (aI (aI (aI Ty.fl28_2 (aI Ty.pl28_2 Ty.sz29)) (aI (aI Ty.by29 Ty.ag29) (aI Ty.zr29 Ty.un29))) (aI (aI Ty.sz31 (aI Ty.by31 Ty.ag31)) (aI (aI Ty.zr31 Ty.fl31_0) (aI Ty.pl31_0 Ty.fl31_1)))) (aI (aI (aI Ty.pl31_1 (aI Ty.sz32 Ty.by32)) (aI (aI Ty.ag32 Ty.zr32) (aI Ty.un32 Ty.sz34))) (aI (aI (aI Ty.by34 Ty.ag34) (aI Ty.zr34 Ty.fl34_0)) (aI (aI Ty.pl34_0 Ty.fl34_1) (aI Ty.pl34_1 Ty.fl34_2)))))) (aI (aI (aI (aI (aI Ty.pl34_2 (aI Ty.fl34_3 Ty.pl34_3)) (aI (aI Ty.fl34_4 Ty.pl34_4) (aI Ty.fl34_5 Ty.pl34_5))) (aI (aI Ty.fl34_6 (aI Ty.pl34_6 Ty.fl34_7)) (aI (aI Ty.pl34_7 Ty.fl34_8) (aI Ty.pl34_8 Ty.sz45)))) (aI (aI (aI Ty.by45 (aI Ty.ag45 Ty.zr45)) (aI (aI Ty.un45 Ty.sz47) (aI Ty.by47 Ty.ag47))) (aI (aI Ty.zr47 (aI Ty.fl47_0 Ty.pl47_0)) (aI (aI Ty.fl47_1 Ty.pl47_1) (aI Ty.fl47_2 Ty.pl47_2))))) (aI (aI (aI (aI Ty.fl47_3 (aI Ty.pl47_3 Ty.fl47_4)) (aI (aI Ty.pl47_4 Ty.fl47_5) (aI Ty.pl47_5 Ty.fl47_6))) (aI (aI Ty.pl47_6 (aI Ty.fl47_7 Ty.pl47_7)) (aI (aI Ty.fl47_8 Ty.pl47_8) (aI Ty.sz93 Ty.by93)))) (aI (aI (aI Ty.ag93 (aI Ty.zr93 Ty.sz103)) (aI (aI Ty.by103 Ty.ag103) (aI Ty.zr103 Ty.fl103_0))) (aI (aI (aI Ty.pl103_0 Ty.fl103_1) (aI Ty.pl103_1 Ty.eq28)) (aI (aI Ty.eq31 Ty.eq103) (aI Ty.cb20 Ty.cb48)))))))
theorem indexNd_nil (x : Nd) (s b2 b3 : Nat) :
    Ok Tryz.prog 47 [nilS, fnP b2 b3] [(b3, .c (cNd x)), (b2, .c [ptr s]), (s, .c [nilS, fnN])]
      fun v bs rs => v = vint (-1) ∧ bs = [(b3, .c (cNd x)), (b2, .c [ptr s]), (s, .c [nilS, fnN])] ∧ rs = [] := by
  refine Ok.of_ex Ty.mixed Tryz.func47 rfl (by simp [Tryz.ntmps47]) (by kernel_rfl) fun F w0 I0 => ?_
  simp only [↓rA, rB, reduceCtorEq, tbLH2, Tryz.results47]
  refine EX_for Ty.mixed (by kernel_rfl) 0 (fun i S => S.boxes = [(b3, .c (cNd x)), (b2, .c [ptr s]), (s, .c [nilS, fnN])] ∧ S.rows = [] ∧ S.σ 7 = vint 0 ∧ S.σ 8 = vint i) ⟨0, ?_⟩ (fun i S hi _ => absurd hi (Nat.not_lt_zero i)) (fun S ⟨gb, gr, g7, g8⟩ => ?_)
  · simp only [rB, Nat.reduceEqDiff]
  · simp only [↓rA, rB, Int.reduceLT, gb, gr, g7, g8]
    exact ⟨_, _, [], Le.refl _, List.Sublist.refl _, List.nil_sublist _, rfl, rfl, rfl⟩

end Go.Proofs.YtphkmlogjgeipaaGreatDoor

