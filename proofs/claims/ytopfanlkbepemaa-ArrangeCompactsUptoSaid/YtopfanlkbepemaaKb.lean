/- Merged out of my texts VM VO VP V13 VX VY VZ VW VU V14. -/
import Derived.Test.YtopfanlkbepemaaKa
import Derived.Laws.IdiomRangeMap
import Derived.Laws.BytesString
import Derived.Scope
/- The V logic, part M: maps of ours, and ranging over them. -/
namespace Go.VL
open Go.RowKit

section
variable {P : Program}

/-! ### Keys -/

theorem ba_beq (a b : ByteArray) : (a == b) = decide (a = b) := by
  rw [Bool.eq_iff_iff, decide_eq_true_eq]
  cases a; cases b
  rename_i a b
  show (a == b) = true ↔ _
  rw [beq_iff_eq, ByteArray.mk.injEq]

theorem check_items {d : Nat} {em : Bool} {D : Nat} {e : TypeId} {l : List Sh} {c : Nat} (hl : eqSh P d e = some l) (hc : tsz P e = some c) (hlc : l.length = c) (ih : ∀ xs w, fitL l xs = true → (Instr.checkKey em D e (mkV P e xs)).run P w = .ok () w)
    (X : Array Value) (w : World) : ∀ (m j : Nat), fitL ((List.replicate m l).flatten) (X.toList.drop (j * c)) = true →
    (forIn (List.range' j m) PUnit.unit fun i _ => (do Instr.checkKey em D e (← part e X (i * (← sizeOf e))); pure (ForInStep.yield PUnit.unit) : Sem (ForInStep PUnit))).run P w = .ok PUnit.unit w
  | 0, j, _ => by simp
  | m + 1, j, hx => by
    simp only [List.replicate_succ, List.flatten_cons] at hx
    have ax := fitL_append hx
    rw [hlc] at ax
    simp only [List.drop_drop] at ax
    rw [show j * c + c = (j + 1) * c by rw [Nat.add_mul]; omega] at ax
    have r := check_items hl hc hlc ih X w m (j + 1) ax.2
    simp only [List.range'_succ, List.forIn_cons, Sem.run_bind, run_tsz hc, run_part_mk hl hc hlc ax.1, ih _ w ax.1, Result.andThen_ok, Sem.run_pure]
    exact r

theorem check_fields {d : Nat} {em : Bool} {D : Nat} (ih : ∀ t l, eqSh P d t = some l → ∀ xs w, fitL l xs = true → (Instr.checkKey em D t (mkV P t xs)).run P w = .ok () w) (X : Array Value) (w : World) : ∀ (fs : List Field) (o : Nat) (l : List Sh), eqShF P (eqSh P d) o fs = some l →
    fitL l (X.toList.drop o) = true → (forIn fs PUnit.unit fun f _ => if f.name ≠ "_" then (do let x ← part f.type X f.offset; Instr.checkKey em D f.type x; pure (ForInStep.yield PUnit.unit) : Sem (ForInStep PUnit)) else pure (ForInStep.yield PUnit.unit)).run P w = .ok PUnit.unit w
  | [], o, l, _, _ => by simp
  | f :: fs, o, l, h, hx => by
    simp only [eqShF] at h
    split at h
    · cases h
    · rename_i hno
      have hn : f.name ≠ "_" := fun e => hno (.inl e)
      have ho : f.offset = o := Decidable.byContradiction fun e => hno (.inr e)
      split at h
      · rename_i l1 c h1 hc
        split at h
        · rename_i hlc
          simp only [Option.map_eq_some_iff] at h
          obtain ⟨l2, h2, rfl⟩ := h
          have ax := fitL_append hx
          rw [hlc] at ax
          simp only [List.drop_drop] at ax
          have r := check_fields ih X w fs (o + c) l2 h2 ax.2
          simp only [List.forIn_cons, Sem.run_bind, hn, ne_eq, not_false_eq_true, if_true, ho, run_part_mk h1 hc hlc ax.1, ih _ _ h1 _ w ax.1, Result.andThen_ok, Sem.run_pure]
          exact r
        · cases h
      · cases h

theorem check_law {em : Bool} : ∀ d t l, eqSh P d t = some l → ∀ D, d ≤ D → ∀ xs w, fitL l xs = true → (Instr.checkKey em D t (mkV P t xs)).run P w = .ok () w
  | 0, t, l, h, _, _, _, _, _ => by simp [eqSh] at h
  | d + 1, t, l, h, D, hD, xs, w, hx => by
    obtain ⟨D, rfl⟩ : ∃ D', D = D' + 1 := ⟨D - 1, by omega⟩
    have hD' : d ≤ D := by omega
    have IH := fun t l h xs w hx => check_law (em := em) d t l h D hD' xs w hx
    unfold eqSh at h
    split at h
    · rename_i hu
      cases h
      obtain ⟨a, rfl⟩ := fit_b hx
      have ht : tag P t = some false := by simp [tag, hu]
      simp [mkV, ht, Instr.checkKey, run_underlying hu]
    · rename_i k hu
      cases h
      obtain ⟨a, rfl⟩ := fit_i hx
      have ht : tag P t = some false := by simp [tag, hu]
      simp [mkV, ht, Instr.checkKey, run_underlying hu]
    · rename_i hu
      cases h
      obtain ⟨a, rfl⟩ := fit_s hx
      have ht : tag P t = some false := by simp [tag, hu]
      simp [mkV, ht, Instr.checkKey, run_underlying hu]
    · rename_i n e hu
      split at h
      · rename_i l1 c h1 hc
        split at h
        · rename_i hlc
          cases h
          have ht : tag P t = some true := by simp [tag, hu]
          simp only [mkV, ht, if_true, Instr.checkKey, Sem.run_bind, run_underlying hu, Result.andThen_ok]
          simp only [Std.Legacy.Range.forIn_eq_forIn_range', Std.Legacy.Range.size, Nat.sub_zero, Nat.add_one_sub_one, Nat.div_one]
          have := check_items h1 hc hlc (fun xs w hx => IH e l1 h1 xs w hx) xs.toArray w n 0 (by simpa using hx)
          first | exact this | (rw [this]; rfl)
        · cases h
      · cases h
    · rename_i fs hu
      split at h
      · cases h
      · have ht : tag P t = some true := by simp [tag, hu]
        simp only [mkV, ht, if_true, Instr.checkKey, Sem.run_bind, run_underlying hu, Result.andThen_ok]
        rw [← Array.forIn_toList]
        have := check_fields IH xs.toArray w fs.toList 0 l h (by simpa using hx)
        first | exact this | (rw [this]; rfl)
    · cases h

theorem veqL_eq : ∀ {sh : List Sh} {xs ys : List Value}, fitL sh xs = true → fitL sh ys = true → (veqL xs ys = true ↔ xs = ys)
  | [], [], [], _, _ => by simp [veqL]
  | a :: sh, x :: xs, y :: ys, hx, hy => by
    simp only [fitL, Bool.and_eq_true] at hx hy
    have h1 := veqL_eq hx.2 hy.2
    simp only [veqL, Bool.and_eq_true, h1, List.cons.injEq, and_congr_left_iff]
    intro _
    have hx1 := hx.1; have hy1 := hy.1
    cases a <;> cases x <;> simp only [fit, Bool.false_eq_true] at hx1 <;> cases y <;> simp only [fit, Bool.false_eq_true] at hy1 <;> simp_all [veq]
  | [], _ :: _, _, hx, _ => by simp [fitL] at hx
  | [], [], _ :: _, _, hy => by simp [fitL] at hy
  | _ :: _, [], _, hx, _ => by simp [fitL] at hx
  | _ :: _, _ :: _, [], _, hy => by simp [fitL] at hy

/-- The kinds of a type's keys. -/
def keyT (P : Program) (t : TypeId) : Option (List Sh × Bool) := match eqSh P 12 t, tag P t with | some l, some b => some (l, b) | _, _ => none

theorem keyS_mk {t : TypeId} {ks : List Sh × Bool} {v : Value} (ht : keyT P t = some ks) (h : keyS ks v = true) : v = mkV P t v.cells.toList ∧ eqSh P 12 t = some ks.1 ∧ fitL ks.1 v.cells.toList = true := by
  unfold keyT at ht
  split at ht
  · rename_i l b h1 h2
    cases ht
    simp only [keyS, Bool.and_eq_true] at h
    refine ⟨?_, h1, h.1⟩
    cases b <;> cases v <;> simp_all [mkV, Value.cells]
  · cases ht

theorem key_ext {ks : List Sh × Bool} {a b : Value} (ha : keyS ks a = true) (hb : keyS ks b = true) (h : a.cells.toList = b.cells.toList) : a = b := by
  simp only [keyS, Bool.and_eq_true] at ha hb
  cases a <;> cases b <;> simp_all [Value.cells]
  all_goals (first | exact Array.ext' h | skip)

def keq (a b : Value) : Bool := veqL a.cells.toList b.cells.toList
theorem keq_iff {ks : List Sh × Bool} {a b : Value} (ha : keyS ks a = true) (hb : keyS ks b = true) : keq a b = true ↔ a = b := by
  have h1 := ha; have h2 := hb
  simp only [keyS, Bool.and_eq_true] at h1 h2
  unfold keq
  rw [veqL_eq h1.1 h2.1]
  exact ⟨key_ext ha hb, fun e => e ▸ rfl⟩

def findX (k : Value) : List MapEntry → Nat → Option (Nat × Value)
  | [], _ => none
  | e :: es, i => if keq k e.key = true then some (i, e.val) else findX k es (i + 1)

theorem sameNow_keq {ks : List Sh × Bool} {kind : TypeDesc} {a b : Value} {r : Bool} (ha : keyS ks a = true) (h : Instr.sameNow kind a b = some r) : r = keq a b := by
  unfold Instr.sameNow at h
  split at h
  · split at h
    · rename_i h1; subst h1; cases h
      simp only [keq, Value.cells, veqL, veq, decide_true, Bool.true_and, Bool.and_true]
      rw [Bool.eq_iff_iff]; simp
    · cases h
  · cases h
    simp only [keq, Value.cells, veqL, veq, Bool.and_true, ba_beq]
  · cases h
    simp only [keq, Value.cells, veqL, veq, Bool.and_true]
  · cases h

theorem findNow_X {ks : List Sh × Bool} {kind : TypeDesc} {k : Value} (hk : keyS ks k = true) : ∀ {es : List MapEntry} {i : Nat} {r : Option (Nat × Value)}, Instr.findNow kind k es i = some r → r = findX k es i
  | [], i, r, h => by simp [Instr.findNow] at h; simp [findX, h]
  | e :: es, i, r, h => by
    unfold Instr.findNow at h
    split at h
    · rename_i hs
      have := sameNow_keq hk hs
      simp only [Option.some.injEq] at h
      simp [findX, ← this, h]
    · rename_i hs
      have := sameNow_keq hk hs
      simp only [findX, ← this, Bool.false_eq_true, if_false]
      exact findNow_X hk h
    · cases h

theorem run_findAsking {t : TypeId} {ks : List Sh × Bool} {k : Value} (ht : keyT P t = some ks) (hk : keyS ks k = true) (w : World) : ∀ (es : List MapEntry) (i : Nat), (∀ e ∈ es, keyS ks e.key = true) → (Instr.findAsking t k es i).run P w = .ok (findX k es i) w
  | [], i, _ => by simp [Instr.findAsking, findX]
  | e :: es, i, h => by
    obtain ⟨e1, h1, f1⟩ := keyS_mk ht hk
    obtain ⟨e2, _, f2⟩ := keyS_mk ht (h e List.mem_cons_self)
    have := eq_law 12 t ks.1 h1 10000 (by omega) _ _ w f1 f2
    rw [← e1, ← e2] at this
    have ih := run_findAsking ht hk w es (i + 1) fun e' he' => h e' (List.mem_cons_of_mem _ he')
    simp only [Instr.findAsking, Sem.run_bind, Op.equal, show Op.maxDepth = 10000 from rfl, this, Result.andThen_ok, findX]
    change (if keq k e.key = true then _ else _ : Sem _).run P w = _
    cases keq k e.key
    · simpa using ih
    · simp

theorem run_findKey {t : TypeId} {ks : List Sh × Bool} {k : Value} (ht : keyT P t = some ks) (hk : keyS ks k = true) (w : World) (es : List MapEntry) (h : ∀ e ∈ es, keyS ks e.key = true) : (Instr.findKey t k es).run P w = .ok (findX k es 0) w := by
  have hu : ∃ u, P.underlying t = some u := by
    obtain ⟨_, h1, _⟩ := keyS_mk ht hk
    unfold eqSh at h1
    cases hu : P.underlying t with
    | none => simp [hu] at h1
    | some u => exact ⟨u, rfl⟩
  obtain ⟨u, hu⟩ := hu
  simp only [Instr.findKey, Sem.run_bind, run_underlying hu, Result.andThen_ok]
  split
  · rename_i r hr
    rw [findNow_X hk hr]; rfl
  · exact run_findAsking ht hk w es 0 h

theorem sameBits_scalar {a : Sh} {x : Value} (h : fit a x = true) (n : Nat) : Instr.sameBits n x x = true := by
  cases a <;> cases x <;> simp only [fit, Bool.false_eq_true] at h <;> cases n <;> simp [Instr.sameBits, ba_beq]

theorem fitL_all : ∀ {sh : List Sh} {xs : List Value}, fitL sh xs = true → ∀ x ∈ xs, ∃ a, fit a x = true
  | _ :: _, _ :: _, h, x, hx => by
    simp only [fitL, Bool.and_eq_true] at h
    rcases List.mem_cons.1 hx with rfl | hx
    · exact ⟨_, h.1⟩
    · exact fitL_all h.2 x hx
  | [], [], _, _, hx => by cases hx
  | [], _ :: _, h, _, _ => by simp [fitL] at h
  | _ :: _, [], h, _, _ => by simp [fitL] at h

theorem run_stays {ks : List Sh × Bool} {k : Value} (hk : keyS ks k = true) (w : World) : (Instr.keyThatStays k k).run P w = .ok k w := by
  have hs : Instr.sameBits 10000 k k = true := by
    simp only [keyS, Bool.and_eq_true] at hk
    have hall := fitL_all hk.1
    by_cases hag : ∃ xs, k = .agg xs
    · obtain ⟨xs, rfl⟩ := hag
      show Instr.sameBits (9999 + 1) _ _ = true
      simp only [Instr.sameBits, beq_self_eq_true, Bool.true_and, List.all_eq_true]
      intro p hp
      obtain ⟨i, hi, e⟩ := List.getElem_of_mem hp
      rw [List.getElem_zip] at e
      rw [← e]
      obtain ⟨a, ha⟩ := hall (xs.toList[i]'(by simp at hi ⊢; omega)) (by simp [Value.cells])
      exact sameBits_scalar ha 9999
    · have hc : k.cells.toList = [k] := by
        cases k <;> simp [Value.cells]
        rename_i xs; exact absurd ⟨xs, rfl⟩ hag
      obtain ⟨a, ha⟩ := hall k (by rw [hc]; exact List.mem_cons_self)
      exact sameBits_scalar ha 10000
  simp [Instr.keyThatStays, hs]

/-! ### Entries, seen from our side -/

abbrev Ent := Nat × Value × V
def findM (es : List Ent) (k : Value) : Option V := (es.find? fun e => keq k e.2.1).map (·.2.2)
def modM (k : Value) (v : V) : List Ent → List Ent
  | [] => []
  | e :: r => if keq k e.2.1 = true then (e.1, e.2.1, v) :: r else e :: modM k v r

theorem modM_keys (k : Value) (v : V) : ∀ (es : List Ent), (modM k v es).map (·.1) = es.map (·.1) ∧ (modM k v es).map (·.2.1) = es.map (·.2.1)
  | [] => ⟨rfl, rfl⟩
  | e :: r => by
    have := modM_keys k v r
    unfold modM
    split
    · exact ⟨rfl, rfl⟩
    · simp [this.1, this.2]

theorem find_pair {w : World} {I : Cells} {k : Value} : ∀ {arr : List MapEntry} {es : List Ent} {i : Nat}, arr.map (·.key) = es.map (·.2.1) → V.reps w I (es.map (·.2.2)) (arr.map (·.val)) →
    (findX k arr i = none ∧ findM es k = none) ∨ (∃ j x v, findX k arr i = some (i + j, x) ∧ findM es k = some v ∧ V.rep w I v x ∧
      ∃ a e b, arr = a ++ e :: b ∧ a.length = j ∧ keq k e.key = true ∧ (∀ (y : Value) (u : V), V.rep w I u y → V.reps w I ((modM k u es).map (·.2.2)) ((a ++ { e with val := y } :: b).map (·.val))))
  | [], [], i, _, _ => .inl ⟨rfl, rfl⟩
  | x :: arr, e :: es, i, hk, hr => by
    simp only [List.map_cons, List.cons.injEq] at hk
    simp only [List.map_cons, V.reps] at hr
    by_cases hq : keq k x.key = true
    · refine .inr ⟨0, x.val, e.2.2, by simp [findX, hq], ?_, hr.1, [], x, arr, rfl, rfl, hq, fun y u hu => ?_⟩
      · have : keq k e.2.1 = true := hk.1 ▸ hq
        simp [findM, this]
      · have : keq k e.2.1 = true := hk.1 ▸ hq
        simp only [modM, this, if_true, List.nil_append, List.map_cons, V.reps]
        exact ⟨hu, hr.2⟩
    · have hq' : ¬ keq k e.2.1 = true := hk.1 ▸ hq
      rcases find_pair (k := k) (i := i + 1) hk.2 hr.2 with ⟨h1, h2⟩ | ⟨j, z, v, h1, h2, h3, a, e', b, rfl, h5, h6, h7⟩
      · left
        refine ⟨by simp [findX, hq, h1], ?_⟩
        simp only [findM, List.find?_cons, hq']
        simpa [findM] using h2
      · right
        refine ⟨j + 1, z, v, by simp [findX, hq, h1]; omega, ?_, h3, x :: a, e', b, rfl, by simp [h5], h6, fun y u hu => ?_⟩
        · simp only [findM, List.find?_cons, hq']
          simpa [findM] using h2
        · simp only [modM, hq', if_false, Bool.false_eq_true, List.cons_append, List.map_cons, V.reps]
          exact ⟨hr.1, by simpa using h7 y u hu⟩
  | [], _ :: _, _, h, _ => by simp at h
  | _ :: _, [], _, h, _ => by simp at h

/-! ### Boxes of every kind -/

def setX : List (Nat × B) → Nat → B → List (Nat × B)
  | [], _, _ => []
  | (b, y) :: r, x, z => if x = b then (b, z) :: r else (b, y) :: setX r x z
theorem setX_keys : ∀ (bs : List (Nat × B)) (x : Nat) (z : B), (setX bs x z).map (·.1) = bs.map (·.1)
  | [], _, _ => rfl
  | (b, y) :: r, x, z => by
    unfold setX
    split
    · rfl
    · simp [setX_keys r x z]
theorem setX_mem : ∀ {bs : List (Nat × B)} {x : Nat} {z : B} {p : Nat × B}, (bs.map (·.1)).Nodup → p ∈ setX bs x z → p = (x, z) ∨ (p ∈ bs ∧ p.1 ≠ x)
  | (b, y) :: r, x, z, p, hn, hp => by
    unfold setX at hp
    simp only [List.map_cons, List.nodup_cons] at hn
    split at hp
    · rename_i e; subst e
      rcases List.mem_cons.1 hp with rfl | hp
      · exact .inl rfl
      · exact .inr ⟨List.mem_cons_of_mem _ hp, fun e => hn.1 (e ▸ List.mem_map.2 ⟨p, hp, rfl⟩)⟩
    · rename_i e
      rcases List.mem_cons.1 hp with rfl | hp
      · exact .inr ⟨List.mem_cons_self, fun e' => e e'.symm⟩
      · exact (setX_mem hn.2 hp).imp id fun h => ⟨List.mem_cons_of_mem _ h.1, h.2⟩
  | [], _, _, _, _, hp => by simp [setX] at hp

def getM : List (Nat × B) → Nat → Option ((List Sh × Bool) × List Ent × Nat)
  | [], _ => none
  | (b, .m ks es cl) :: r, x => if x = b then some (ks, es, cl) else getM r x
  | (b, _) :: r, x => if x = b then none else getM r x
theorem getM_mem : ∀ {bs : List (Nat × B)} {x : Nat} {ks es cl}, getM bs x = some (ks, es, cl) → (x, .m ks es cl) ∈ bs
  | (b, .m _ _ _) :: r, x, ks, es, cl, h => by
    unfold getM at h
    split at h
    · rename_i e; subst e; cases h; exact List.mem_cons_self
    · exact List.mem_cons_of_mem _ (getM_mem h)
  | (b, .c _) :: r, x, ks, es, cl, h => by
    unfold getM at h
    split at h
    · cases h
    · exact List.mem_cons_of_mem _ (getM_mem h)
  | (b, .it _ _ _ _) :: r, x, ks, es, cl, h => by
    unfold getM at h
    split at h
    · cases h
    · exact List.mem_cons_of_mem _ (getM_mem h)
def getI : List (Nat × B) → Nat → Option (Nat × Nat × List Nat × Nat)
  | [], _ => none
  | (b, .it mb since seen last) :: r, x => if x = b then some (mb, since, seen, last) else getI r x
  | (b, _) :: r, x => if x = b then none else getI r x
theorem getI_mem : ∀ {bs : List (Nat × B)} {x : Nat} {mb since seen last}, getI bs x = some (mb, since, seen, last) → (x, .it mb since seen last) ∈ bs
  | (b, .it _ _ _ _) :: r, x, mb, since, seen, last, h => by
    unfold getI at h
    split at h
    · rename_i e; subst e; cases h; exact List.mem_cons_self
    · exact List.mem_cons_of_mem _ (getI_mem h)
  | (b, .c _) :: r, x, mb, since, seen, last, h => by
    unfold getI at h
    split at h
    · cases h
    · exact List.mem_cons_of_mem _ (getI_mem h)
  | (b, .m _ _ _) :: r, x, mb, since, seen, last, h => by
    unfold getI at h
    split at h
    · cases h
    · exact List.mem_cons_of_mem _ (getI_mem h)

def setBlk (w : World) (r : Nat) (o : Obj) : World := { w with heap := w.heap.setIfInBounds r o }
theorem setBlk_at {w : World} {r : Nat} {o o' : Obj} (h : w.heap[r]? = some o) : (setBlk w r o').heap[r]? = some o' := by
  have hlt : r < w.heap.size := (Array.getElem?_eq_some_iff.1 h).1
  simp [setBlk, hlt]
theorem setBlk_ne (w : World) (r r' : Nat) (o' : Obj) (h : r' ≠ r) : (setBlk w r o').heap[r']? = w.heap[r']? := by
  simp [setBlk, Ne.symm h]
theorem run_setBlk {w : World} {r : Nat} {o : Obj} (o' : Obj) (h : w.heap[r]? = some o) (hc : ∀ c e f, o ≠ .cells c e f) : (setObj r o').run P w = .ok () (setBlk w r o') := by
  cases o <;> simp_all [setObj, Sem.run, setBlk]

/-- A box of ours is written anew, whatever it is. -/
theorem ΓW.setX {C S w I b} {o o' : Obj} {z : B} (h : ΓW C S w I) (hb : b ∈ S.boxes.map (·.1)) (hw : w.heap[b]? = some o) (hz : ∀ w', (∀ r, r ≠ b → w'.heap[r]? = w.heap[r]?) → w'.heap[b]? = some o' → Stays w I w' I → BoxAt w' I b z) :
    ΓW C (S.setBoxes (VL.setX S.boxes b z)) (setBlk w b o') I ∧ Stays w I (setBlk w b o') I := by
  have hbI : ∀ o, ¬ I b o := by
    obtain ⟨p, hp, rfl⟩ := List.mem_map.1 hb
    exact (h.heap.bx p hp).out
  have hcell : ∀ b' o, I b' o → (setBlk w b o').cell? ⟨b', o, none⟩ = w.cell? ⟨b', o, none⟩ := fun b' o hi => by
    have hne : b' ≠ b := fun e => hbI o (e ▸ hi)
    have := setBlk_ne w b b' o' hne
    unfold World.cell?
    rw [this]
  have hst : Stays w I (setBlk w b o') I := fun b' o hi => ⟨hi, hcell b' o hi⟩
  have hn : (S.boxes.map (·.1)).Nodup := (List.nodup_append.1 h.heap.nodup).1
  have hblk : b ∈ blks S.boxes S.rows := List.mem_append.2 (.inl hb)
  refine ⟨⟨⟨fun p hp => ?_, fun r hr => ?_, ?_, fun b' o hi => by simpa [setBlk] using h.heap.inn b' o hi⟩, ?_, ?_, h.lo⟩, hst⟩
  · rcases setX_mem hn hp with rfl | ⟨hp, hne⟩
    · exact hz _ (fun r hr => setBlk_ne w b r o' hr) (setBlk_at hw) hst
    · exact (h.heap.bx p hp).mono hst (setBlk_ne w b p.1 o' hne) fun _ hi => hi
  · refine (h.heap.rw r hr).mono (fun g hg => setBlk_ne w b g o' fun e => ?_) fun _ _ _ hi => hi
    subst e
    exact (List.nodup_append.1 h.heap.nodup).2.2 g hb g (List.mem_filterMap.2 ⟨r, hr, hg⟩) rfl
  · simp only [blks, St.setBoxes, setX_keys]; exact h.heap.nodup
  · simp only [blks, St.setBoxes, setX_keys]; exact h.mine
  · exact h.keeps.trans ⟨rfl, rfl, rfl, by simp [setBlk], fun b' hb' => setBlk_ne w b b' o' (fun e => h.mine b hblk (e ▸ hb')), hst, fun _ _ _ hi => hi, Nat.le_refl _⟩

/-- A new box of any kind. -/
theorem ΓW.newB {C S w I} (h : ΓW C S w I) (o : Obj) (x : B) (hx : BoxAt (w.alloc o) I w.heap.size x) : ΓW C (S.addB w.heap.size x) (w.alloc o) I := by
  have hA := h.alloc o
  refine ⟨⟨fun p hp => ?_, hA.heap.rw, ?_, hA.heap.inn⟩, fun b hb => ?_, hA.keeps, hA.lo⟩
  · rcases List.mem_cons.1 hp with rfl | hp
    · exact hx
    · exact hA.heap.bx p hp
  · simp only [blks, St.addB, List.map_cons, List.cons_append, List.nodup_cons]
    exact ⟨h.fresh, h.heap.nodup⟩
  · simp only [blks, St.addB, List.map_cons, List.cons_append, List.mem_cons] at hb
    rcases hb with rfl | hb
    · exact h.notF
    · exact h.mine b hb

/-! ### The operations -/

/-- What stands in a slot for a key or an element of ours. -/
def valV : Value → V
  | .agg xs => .agg (xs.toList.map .lit)
  | v => .lit v
theorem valV_rep {w : World} {I : Cells} (v : Value) : V.rep w I (valV v) v := by
  cases v <;> simp only [valV, V.rep]
  exact ⟨_, rfl, reps_lits _⟩

def zeroV (P : Program) (t : TypeId) : Option V := ((P.info? t).bind fun i => i.zero).map valV
theorem run_zeroV {P : Program} {t : TypeId} {z : V} (h : zeroV P t = some z) (w : World) (I : Cells) : ∃ v, (zeroValue t).run P w = .ok v w ∧ V.rep w I z v := by
  unfold zeroV at h
  cases hi : P.info? t with
  | none => simp [hi] at h
  | some i =>
    cases hz : i.zero with
    | none => simp [hi, hz] at h
    | some v =>
      simp [hi, hz] at h
      exact ⟨v, by simp [zeroValue, typeInfo, hi, hz], h ▸ valV_rep v⟩

/-- A map type: its keys' kinds, the zero element. -/
def mapT (P : Program) (t : TypeId) : Option (TypeId × (List Sh × Bool) × V) := match P.underlying t with
  | some (.map kt et) => match keyT P kt, zeroV P et with
    | some ks, some z => some (kt, ks, z)
    | _, _ => none
  | _ => none
theorem mapT_spec {t kt : TypeId} {ks : List Sh × Bool} {z : V} (h : mapT P t = some (kt, ks, z)) : ∃ et, P.underlying t = some (.map kt et) ∧ keyT P kt = some ks ∧ zeroV P et = some z := by
  unfold mapT at h
  split at h
  · rename_i k e hu
    split at h
    · rename_i a b h1 h2; cases h; exact ⟨e, hu, h1, h2⟩
    · cases h
  · cases h

def makeMapK (P : Program) (S : St) (d : Option Nat) (t : TypeId) (r : Option V) (K : St → Prop) : Prop :=
  match mapT P t with
  | some (_, ks, _) => (r = none ∨ ∃ k n, r = some (.lit (.int k n))) ∧ ∀ b, b ∉ blks S.boxes S.rows → K ((S.addB b (.m ks [] 0)).put d (.lit (.map (some b))))
  | none => False

theorem step_makeMap {C S} {o : Oper} {t : TypeId} {r : Option Operand} {K : St → Prop} (ho : o.op = .makeMap t r) (hd : dstOk C.N o = true) (h : makeMapK C.P S o.dst t (r.map (VL.ev S.σ)) K) : Step C S o K := by
  unfold makeMapK at h
  split at h
  · rename_i kt ks z hT
    obtain ⟨et, hu, hks, hz⟩ := mapT_spec hT
    · obtain ⟨hr, hK⟩ := h
      refine Step.of_value fun a w I hΓ => ?_
      have hx : BoxAt (w.alloc (.map #[] 0)) I w.heap.size (.m ks [] 0) := ⟨#[], heap_new w _, ⟨rfl, rfl, by simp, by simp, by simp⟩, by simp [V.reps], fun o hi => by have := hΓ.2.heap.inn _ _ hi; omega⟩
      refine ⟨.map (some w.heap.size), w.alloc (.map #[] 0), _, I, ?_, ⟨(hΓ.1.mono (Keeps.new _ hΓ.2.heap.inn).stays).put o.dst (dstOk_spec hd) (v := .lit (.map (some w.heap.size))) (by simp only [V.rep]), (hΓ.2.newB _ _ hx).put _ _⟩, hK _ hΓ.2.fresh⟩
      simp only [execOp, ho]
      cases r with
      | none => simp [Instr.makeMap]
      | some x =>
        simp only [Option.map_some, reduceCtorEq, false_or, Option.some.injEq] at hr
        obtain ⟨k, n, hr⟩ := hr
        have rx := hΓ.ev x
        rw [hr] at rx
        simp only [V.rep] at rx
        simp [Instr.makeMap, rx, run_underlying hu, asInt, asIntOf]
  · exact h.elim

def keyV : V → Option Value
  | .lit v => some v
  | .agg vs => (vals vs).map fun l => .agg l.toArray
  | _ => none

theorem keyV_spec {w : World} {I : Cells} {v : V} {k x : Value} (h : keyV v = some k) (hr : V.rep w I v x) : x = k := by
  cases v <;> simp only [keyV, reduceCtorEq] at h
  case lit y => simp only [V.rep] at hr; cases h; exact hr
  case agg vs =>
    simp only [Option.map_eq_some_iff] at h
    obtain ⟨l, hl, rfl⟩ := h
    simp only [V.rep] at hr
    obtain ⟨xs, rfl, hr⟩ := hr
    rw [← vals_spec hl hr]

inductive Fix {α : Sort _} (a : α) : Type | mk
def onFind (o : Option V) (A : V → Prop) (B : Prop) (_ : Fix A) (_ : Fix B) : Prop := match o with | some v => A v | none => B

def lookD (S : St) (ks : List Sh × Bool) (z : V) (kv : Value) (x : V) (ok : Bool) (K : V → Prop) : Prop :=
  match x with
  | .lit (.map none) => K (if ok = true then .tup [z, .lit (.bool false)] else z)
  | .lit (.map (some b)) => match getM S.boxes b with
    | some (ks', es, _) => ks' = ks ∧ onFind (findM es kv) (fun v => K (if ok = true then .tup [v, .lit (.bool true)] else v)) (K (if ok = true then .tup [z, .lit (.bool false)] else z)) .mk .mk
    | none => False
  | _ => False
def lookK (P : Program) (S : St) (t : TypeId) (x k : V) (ok : Bool) (K : V → Prop) : Prop :=
  match mapT P t with
  | some (_, ks, z) => match keyV k with
    | some kv => keyS ks kv = true ∧ lookD S ks z kv x ok K
    | none => False
  | none => False

theorem MapAt.all {w : World} {I : Cells} {b : Nat} {ks : List Sh × Bool} {es : List Ent} {cl : Nat} (h : BoxAt w I b (.m ks es cl)) : ∃ arr, w.heap[b]? = some (.map arr cl) ∧ arr.toList.map (·.born) = es.map (·.1) ∧ arr.toList.map (·.key) = es.map (·.2.1) ∧ (∀ e ∈ arr.toList, keyS ks e.key = true) ∧
    (∀ e ∈ es, keyS ks e.2.1 = true) ∧ (es.map (·.1)).Pairwise (· < ·) ∧ (∀ e ∈ es, e.1 < cl) ∧ V.reps w I (es.map (·.2.2)) (arr.toList.map (·.val)) ∧ ∀ o, ¬ I b o := by
  obtain ⟨arr, h1, ⟨h2, h3, h4, h5, h6⟩, h7, h8⟩ := h
  refine ⟨arr, h1, h2, h3, fun e he => ?_, h4, h5, h6, h7, h8⟩
  have : e.key ∈ es.map (·.2.1) := h3 ▸ List.mem_map.2 ⟨e, he, rfl⟩
  obtain ⟨e', he', hk⟩ := List.mem_map.1 this
  rw [← hk]; exact h4 e' he'

theorem lookK_spec {C : Ctx} {S : St} {t : TypeId} {x k : V} {ok : Bool} {K : V → Prop} (h : lookK C.P S t x k ok K) :
    ∃ v, K v ∧ ∀ w I vx vk, ΓW C S w I → V.rep w I x vx → V.rep w I k vk → ∃ y, (Instr.lookup t vx vk ok).run C.P w = .ok y w ∧ V.rep w I v y := by
  unfold lookK at h
  split at h
  · rename_i kt ks z hT
    obtain ⟨et, hu, hks, hz⟩ := mapT_spec hT
    split at h
    · rename_i kv hkv
      obtain ⟨hkS, h⟩ := h
      unfold lookD at h
      obtain ⟨ekv, hsh, hfit⟩ := keyS_mk hks hkS
      have pk : ∀ (v : V) (b : Bool) w I y, V.rep w I v y → V.rep w I (if ok = true then .tup [v, .lit (.bool b)] else v) (if ok = true then .tuple #[y, .bool b] else y) := fun v b w I y hy => by
        cases ok
        · simpa using hy
        · simp only [if_true, V.rep]
          exact ⟨_, rfl, by simp only [V.reps, V.rep]; exact ⟨hy, trivial, trivial⟩⟩
      have hck : ∀ w em, (Instr.checkKey em 10000 kt kv).run C.P w = .ok () w := fun w em => by
        rw [ekv]; exact check_law 12 kt ks.1 hsh 10000 (by omega) _ w hfit
      split at h
      · refine ⟨_, h, fun w I vx vk hW hx hk => ?_⟩
        obtain rfl := keyV_spec hkv hk
        simp only [V.rep] at hx
        subst hx
        obtain ⟨y, hy, hr⟩ := run_zeroV hz w I
        refine ⟨_, ?_, pk z false w I y hr⟩
        have hf := run_findKey hks hkS w [] (by simp)
        simp only [Instr.lookup, Sem.run_bind, run_underlying hu, Result.andThen_ok, Sem.run_pure, hck, hf, findX, hy]
        all_goals (cases ok <;> rfl)
      · rename_i b
        split at h
        · rename_i ks' es cl hm
          obtain ⟨rfl, h⟩ := h
          cases hfm : findM es kv with
          | none =>
            rw [hfm] at h
            refine ⟨_, h, fun w I vx vk hW hx hk => ?_⟩
            obtain rfl := keyV_spec hkv hk
            simp only [V.rep] at hx
            subst hx
            obtain ⟨arr, g1, g2, g3, g4, g5, g6, g7, g8, g9⟩ := MapAt.all (hW.heap.bx _ (getM_mem hm))
            obtain ⟨y, hy, hr⟩ := run_zeroV hz w I
            refine ⟨_, ?_, pk z false w I y hr⟩
            have hf := run_findKey hks hkS w arr.toList g4
            rcases find_pair (i := 0) g3 g8 (k := vk) with ⟨q1, q2⟩ | ⟨j, x, v, q1, q2, _⟩
            · simp only [Instr.lookup, Sem.run_bind, run_underlying hu, Result.andThen_ok, Sem.run_pure, MapKept.run_getObj_map g1, hck, hf, q1, hy]
              all_goals (cases ok <;> rfl)
            · rw [hfm] at q2; cases q2
          | some v =>
            rw [hfm] at h
            refine ⟨_, h, fun w I vx vk hW hx hk => ?_⟩
            obtain rfl := keyV_spec hkv hk
            simp only [V.rep] at hx
            subst hx
            obtain ⟨arr, g1, g2, g3, g4, g5, g6, g7, g8, g9⟩ := MapAt.all (hW.heap.bx _ (getM_mem hm))
            have hf := run_findKey hks hkS w arr.toList g4
            rcases find_pair (i := 0) g3 g8 (k := vk) with ⟨q1, q2⟩ | ⟨j, x, v', q1, q2, q3, _⟩
            · rw [hfm] at q2; cases q2
            · rw [hfm] at q2; cases q2
              refine ⟨_, ?_, pk v true w I x q3⟩
              simp only [Instr.lookup, Sem.run_bind, run_underlying hu, Result.andThen_ok, Sem.run_pure, MapKept.run_getObj_map g1, hck, hf, q1]
              all_goals (cases ok <;> rfl)
        · exact h.elim
      · exact h.elim
    · exact h.elim
  · exact h.elim

theorem step_lookup {C S} {o : Oper} {t : TypeId} {x k : Operand} {ok : Bool} {K : St → Prop} (ho : o.op = .lookup t x k ok) (hd : dstOk C.N o = true) (h : lookK C.P S t (VL.ev S.σ x) (VL.ev S.σ k) ok fun v => K (S.put o.dst v)) : Step C S o K := by
  obtain ⟨v, hK, hv⟩ := lookK_spec (C := C) h
  refine Step.of_value fun a w I hΓ => ?_
  obtain ⟨y, hy, hr⟩ := hv w I _ _ hΓ.2 (hΓ.ev x) (hΓ.ev k)
  exact ⟨y, w, _, I, by simp only [execOp, ho, Sem.run_bind, hy, Result.andThen_ok, Sem.run_pure], ⟨hΓ.1.put o.dst (dstOk_spec hd) hr, hΓ.2.put _ _⟩, hK⟩

def updD (S : St) (d : Option Nat) (ks : List Sh × Bool) (kv : Value) (x v : V) (K : St → Prop) : Prop :=
  match x with
  | .lit (.map (some b)) => match getM S.boxes b with
    | some (ks', es, cl) => ks' = ks ∧ onFind (findM es kv) (fun _ => K ((S.setBoxes (VL.setX S.boxes b (.m ks (modM kv v es) cl))).put d .any)) (K ((S.setBoxes (VL.setX S.boxes b (.m ks (es ++ [(cl, kv, v)]) (cl + 1)))).put d .any)) .mk .mk
    | none => False
  | _ => False
def updK (P : Program) (S : St) (d : Option Nat) (t : TypeId) (x k v : V) (K : St → Prop) : Prop :=
  match mapT P t with
  | some (_, ks, _) => match keyV k with
    | some kv => keyS ks kv = true ∧ updD S d ks kv x v K
    | none => False
  | none => False

theorem lmod {α : Type} (f : α → α) (e : α) (b : List α) : ∀ a : List α, (a ++ e :: b).modify a.length f = a ++ f e :: b
  | [] => rfl
  | x :: a => by
    have := lmod f e b a
    simpa using this
theorem modify_at {α : Type} (f : α → α) (a : List α) (e : α) (b : List α) : ((a ++ e :: b).toArray.modify a.length f).toList = a ++ f e :: b := by
  rw [Array.toList_modify]; exact lmod f e b a

theorem step_mapUpdate {C S} {o : Oper} {t : TypeId} {x k v : Operand} {K : St → Prop} (ho : o.op = .mapUpdate t x k v) (hd : dstOk C.N o = true) (h : updK C.P S o.dst t (VL.ev S.σ x) (VL.ev S.σ k) (VL.ev S.σ v) K) : Step C S o K := by
  unfold updK at h
  split at h
  · rename_i kt ks z hT
    obtain ⟨et, hu, hks, hz⟩ := mapT_spec hT
    split at h
    rename_i kv hkv
    obtain ⟨hkS, h⟩ := h
    unfold updD at h
    split at h
    · rename_i b hx
      split at h
      · rename_i ks' es cl hm
        obtain ⟨rfl, h⟩ := h
        obtain ⟨ekv, hsh, hfit⟩ := keyS_mk hks hkS
        have hmem := getM_mem hm
        have hb : b ∈ S.boxes.map (·.1) := List.mem_map.2 ⟨_, hmem, rfl⟩
        have hck : ∀ w, (Instr.checkKey false 10000 kt kv).run C.P w = .ok () w := fun w => by
          rw [ekv]; exact check_law 12 kt ks'.1 hsh 10000 (by omega) _ w hfit
        refine Step.of_skip fun a w I hΓ => ?_
        have rx := hΓ.ev x
        rw [hx] at rx
        simp only [V.rep] at rx
        have rk := keyV_spec hkv (hΓ.ev k)
        have rv := hΓ.ev v
        obtain ⟨arr, g1, g2, g3, g4, g5, g6, g7, g8, g9⟩ := MapAt.all (hΓ.2.heap.bx _ hmem)
        have hf := run_findKey hks hkS w arr.toList g4
        rcases find_pair (i := 0) g3 g8 (k := kv) with ⟨q1, q2⟩ | ⟨j, z, v', q1, q2, q3, A, e, R, q4, q5, q6, q7⟩
        · rw [q2] at h
          have hz : ∀ w', (∀ r, r ≠ b → w'.heap[r]? = w.heap[r]?) → w'.heap[b]? = some (.map (arr.push { key := kv, val := a.eval v, born := cl }) (cl + 1)) → Stays w I w' I → BoxAt w' I b (.m ks' (es ++ [(cl, kv, VL.ev S.σ v)]) (cl + 1)) := fun w' _ h1 hs => by
            refine ⟨_, h1, ⟨by simp [g2], by simp [g3], ?_, ?_, ?_⟩, ?_, g9⟩
            · intro e he
              rcases List.mem_append.1 he with he | he
              · exact g5 e he
              · simp only [List.mem_singleton] at he; subst he; exact hkS
            · rw [List.map_append, List.pairwise_append]
              refine ⟨g6, by simp, fun a' ha b' hb' => ?_⟩
              simp only [List.map_cons, List.map_nil, List.mem_singleton] at hb'
              obtain ⟨e, he, rfl⟩ := List.mem_map.1 ha
              subst hb'
              exact g7 e he
            · intro e he
              rcases List.mem_append.1 he with he | he
              · exact Nat.lt_succ_of_lt (g7 e he)
              · simp only [List.mem_singleton] at he; subst he; exact Nat.lt_succ_self _
            · simp only [Array.toList_push, List.map_append, List.map_cons, List.map_nil]
              exact reps_append (V.reps_mono hs _ _ g8) (by simp only [V.reps, and_true]; exact V.rep_mono hs _ _ rv)
          obtain ⟨hW, hS⟩ := hΓ.2.setX hb g1 hz
          refine ⟨_, _, I, ?_, ⟨(hΓ.1.mono hS).put o.dst (dstOk_spec hd) (v := .any) (by simp only [V.rep]), hW.put _ _⟩, h⟩
          simp only [execOp, ho, rx, rk, Instr.mapUpdate, Sem.run_bind, run_underlying hu, Result.andThen_ok, MapKept.run_getObj_map g1, hck, hf, q1, run_setBlk _ g1 (fun _ _ _ h => by cases h), Sem.run_pure]
        · rw [q2] at h
          have ekey : e.key = kv := ((keq_iff hkS (g4 e (by rw [q4]; simp))).1 q6).symm
          have harr : arr = (A ++ e :: R).toArray := by rw [← q4]
          have hz : ∀ w', (∀ r, r ≠ b → w'.heap[r]? = w.heap[r]?) → w'.heap[b]? = some (.map (arr.modify j fun e => { e with key := kv, val := a.eval v }) cl) → Stays w I w' I → BoxAt w' I b (.m ks' (modM kv (VL.ev S.σ v) es) cl) := fun w' _ h1 hs => by
            have hml : (arr.modify j fun e => { e with key := kv, val := a.eval v }).toList = A ++ { e with val := a.eval v } :: R := by
              rw [harr, ← q5, modify_at]
              congr 2
              rw [← ekey]
            refine ⟨_, h1, ⟨?_, ?_, ?_, ?_, ?_⟩, ?_, g9⟩
            · rw [hml, (modM_keys _ _ _).1, ← g2, q4]; simp
            · rw [hml, (modM_keys _ _ _).2, ← g3, q4]; simp
            · intro e' he'
              have : e'.2.1 ∈ (modM kv (VL.ev S.σ v) es).map (·.2.1) := List.mem_map.2 ⟨e', he', rfl⟩
              rw [(modM_keys _ _ _).2] at this
              obtain ⟨e2, h2, h3⟩ := List.mem_map.1 this
              rw [← h3]; exact g5 e2 h2
            · rw [(modM_keys _ _ _).1]; exact g6
            · intro e' he'
              have : e'.1 ∈ (modM kv (VL.ev S.σ v) es).map (·.1) := List.mem_map.2 ⟨e', he', rfl⟩
              rw [(modM_keys _ _ _).1] at this
              obtain ⟨e2, h2, h3⟩ := List.mem_map.1 this
              rw [← h3]; exact g7 e2 h2
            · rw [hml]; exact V.reps_mono hs _ _ (q7 _ _ rv)
          obtain ⟨hW, hS⟩ := hΓ.2.setX hb g1 hz
          refine ⟨_, _, I, ?_, ⟨(hΓ.1.mono hS).put o.dst (dstOk_spec hd) (v := .any) (by simp only [V.rep]), hW.put _ _⟩, h⟩
          have hget : ((arr[j]?).map (·.key)).getD kv = kv := by
            rw [harr, ← q5]; simp [ekey]
          simp only [execOp, ho, rx, rk, Instr.mapUpdate, Sem.run_bind, run_underlying hu, Result.andThen_ok, MapKept.run_getObj_map g1, hck, hf, q1, Nat.zero_add, hget, run_stays hkS, run_setBlk _ g1 (fun _ _ _ h => by cases h), Sem.run_pure]
      · exact h.elim
    · exact h.elim
    · exact h.elim
  · exact h.elim

def rangeK (P : Program) (S : St) (d : Option Nat) (t : TypeId) (x : V) (K : St → Prop) : Prop :=
  match P.underlying t, x with
  | some (.map _ _), .lit (.map (some b)) => match getM S.boxes b with
    | some (_, _, cl) => ∀ ib, ib ∉ blks S.boxes S.rows → K ((S.addB ib (.it b cl [] cl)).put d (.lit (.pointer (some ⟨ib, 0, none⟩))))
    | none => False
  | _, _ => False

theorem step_range {C S} {o : Oper} {t : TypeId} {x : Operand} {K : St → Prop} (ho : o.op = .range t x) (hd : dstOk C.N o = true) (h : rangeK C.P S o.dst t (VL.ev S.σ x) K) : Step C S o K := by
  unfold rangeK at h
  split at h
  · rename_i kt et b hu hx
    split at h
    · rename_i ks es cl hm
      refine Step.of_value fun a w I hΓ => ?_
      have rx := hΓ.ev x
      rw [hx] at rx
      simp only [V.rep] at rx
      obtain ⟨arr, g1, _⟩ := MapAt.all (hΓ.2.heap.bx _ (getM_mem hm))
      have hB : BoxAt (w.alloc (.mapIter (some b) cl #[] cl)) I w.heap.size (.it b cl [] cl) := ⟨heap_new w _, fun o hi => by have := hΓ.2.heap.inn _ _ hi; omega⟩
      refine ⟨.pointer (some ⟨w.heap.size, 0, none⟩), _, _, I, ?_, ⟨(hΓ.1.mono (Keeps.new _ hΓ.2.heap.inn).stays).put o.dst (dstOk_spec hd) (v := .lit (.pointer (some ⟨w.heap.size, 0, none⟩))) (by simp only [V.rep]), (hΓ.2.newB _ _ hB).put _ _⟩, h _ hΓ.2.fresh⟩
      simp only [execOp, ho, rx, Sem.run_bind, run_range_map w t kt et b arr cl hu g1, Result.andThen_ok, Sem.run_pure]
    · exact h.elim
  · exact h.elim

def leftE (es : List Ent) (seen : List Nat) : List Ent := es.filter fun e => !seen.contains e.1

def nextK (S : St) (d : Option Nat) (it : V) (K : St → Prop) : Prop :=
  match it with
  | .lit (.pointer (some ⟨ib, 0, none⟩)) => match getI S.boxes ib with
    | some (mb, since, seen, last) => match getM S.boxes mb with
      | some (_, es, cl) => (since = cl ∧ last = cl) ∧ (leftE es seen = [] → K (S.put d (.tup [.lit (.bool false)]))) ∧
          ∀ e, e ∈ leftE es seen → es.find? (fun x => x.1 == e.1) = some e → K ((S.setBoxes (VL.setX S.boxes ib (.it mb since (seen ++ [e.1]) cl))).put d (.tup [.lit (.bool true), valV e.2.1, e.2.2]))
      | none => False
    | none => False
  | _ => False

theorem find_ent : ∀ {es : List Ent} {e : Ent}, (es.map (·.1)).Pairwise (· < ·) → e ∈ es → es.find? (fun x => x.1 == e.1) = some e
  | x :: es, e, hp, he => by
    simp only [List.map_cons, List.pairwise_cons] at hp
    rcases List.mem_cons.1 he with rfl | he
    · simp
    · have := hp.1 e.1 (List.mem_map.2 ⟨e, he, rfl⟩)
      rw [List.find?_cons]
      have hne : (x.1 == e.1) = false := by simp; omega
      rw [hne]
      exact find_ent hp.2 he

theorem run_next {w : World} {ty : TypeId} {ib mb since last : Nat} {seen : Array Nat} {arr : Array MapEntry} {cl : Nat} (h1 : w.heap[ib]? = some (.mapIter (some mb) since seen last)) (hb : w.heap[mb]? = some (.map arr cl)) (hold : ∀ x ∈ arr.toList, x.born < since) (hsc : since ≤ last) :
    (leftOf arr seen = #[] ∧ (Instr.next (.pointer (some ⟨ib, 0, none⟩)) false ty).run P w = .ok (.tuple #[.bool false]) w) ∨
    ∃ e ∈ (leftOf arr seen).toList, ∃ w1 : World, (w1 = w ∨ w1 = w.drew) ∧ (Instr.next (.pointer (some ⟨ib, 0, none⟩)) false ty).run P w = .ok (.tuple #[.bool true, e.key, e.val]) (setBlk w1 ib (.mapIter (some mb) since (seen.push e.born) cl)) := by
  simp only [Instr.next, getObj, Sem.run_bind, Sem.run, h1, hb, Result.andThen, next_test_false seen arr since last hold hsc, Bool.false_eq_true, if_false]
  unfold leftOf
  have hmem : ∀ x ∈ (Array.filter (fun e => !seen.contains e.born) arr).toList, x.born < since := fun x hx => hold x (by simp at hx ⊢; exact hx.1)
  generalize Array.filter (fun e => !seen.contains e.born) arr = L at hmem ⊢
  have e1 : L.filter (fun x => decide (x.born < since)) = L := Array.filter_eq_self.2 (fun x hx => by simpa using hmem x (by simpa using hx))
  have e2 : L.filter (fun x => decide (x.born ≥ since)) = #[] := by
    rw [Array.filter_eq_empty_iff]
    intro x hx
    have := hmem x (by simpa using hx)
    simp
    omega
  simp only [e1, e2, Array.append_empty]
  by_cases h0 : L.size = 0
  · left
    have : L = #[] := Array.eq_empty_of_size_eq_zero h0
    subst this
    refine ⟨rfl, ?_⟩
    simp [choose, Sem.run, Question.forced]
  · right
    have hne : L.isEmpty = false := by simp [Array.isEmpty, h0]
    simp only [hne, Bool.false_eq_true, if_false, Array.empty_append, Array.size_map]
    have hch : ∃ (j : Nat) (w1 : World), j < L.size ∧ (w1 = w ∨ w1 = w.drew) ∧ (choose (Question.mapNext L.size)).run P w = .ok j w1 := by
      by_cases hf : L.size ≤ 1
      · exact ⟨0, w, by omega, .inl rfl, by simp [choose, Sem.run, Question.forced, hf]⟩
      · exact ⟨_, w.drew, Nat.mod_lt _ (by omega), .inr rfl, by
          simp only [choose, Sem.run, Question.forced, decide_eq_true_eq, hf, if_false, Question.cut]
          rfl⟩
    obtain ⟨j, w1, hj, hal, hrun⟩ := hch
    refine ⟨L[j], by simp, w1, hal, ?_⟩
    have h1' : w1.heap[ib]? = some (.mapIter (some mb) since seen last) := by rcases hal with rfl | rfl <;> exact h1
    have hset := fun o' => run_setBlk (P := P) o' h1' (fun _ _ _ h => by cases h)
    simp only [hrun, Array.getElem?_map, Array.getElem?_eq_getElem hj, Option.map_some, Sem.run_bind, hset, Result.andThen]
    rfl

theorem step_next {C S} {o : Oper} {x : Operand} {K : St → Prop} (ho : o.op = .next x false) (hd : dstOk C.N o = true) (h : nextK S o.dst (VL.ev S.σ x) K) : Step C S o K := by
  unfold nextK at h
  split at h
  · rename_i ib hx
    split at h
    · rename_i mb since seen last hi
      split at h
      · rename_i ks es cl hm
        obtain ⟨⟨rfl, rfl⟩, h0, h1⟩ := h
        refine Step.of_value fun a w I hΓ => ?_
        have rx := hΓ.ev x
        rw [hx] at rx
        simp only [V.rep] at rx
        obtain ⟨arr, g1, g2, g3, g4, g5, g6, g7, g8, g9⟩ := MapAt.all (hΓ.2.heap.bx _ (getM_mem hm))
        have gi := hΓ.2.heap.bx _ (getI_mem hi)
        have gi' : w.heap[ib]? = some (.mapIter (some mb) last seen.toArray last) := gi.1
        have hlen : arr.toList.length = es.length := by have := congrArg List.length g2; simpa using this
        -- our entries and those of the map go side by side
        have side : ∀ e ∈ arr.toList, ∃ e' ∈ es, e'.1 = e.born ∧ e'.2.1 = e.key ∧ V.rep w I e'.2.2 e.val := by
          clear h0 h1 hm g1 g4 g5 g6 g7 g9 gi gi' hlen
          generalize arr.toList = l at g2 g3 g8 ⊢
          induction l generalizing es with
          | nil => intro e he; cases he
          | cons y l ih =>
            cases es with
            | nil => simp at g2
            | cons z es =>
              simp only [List.map_cons, List.cons.injEq] at g2 g3
              simp only [List.map_cons, V.reps] at g8
              intro e he
              rcases List.mem_cons.1 he with rfl | he
              · exact ⟨z, List.mem_cons_self, g2.1.symm, g3.1.symm, g8.1⟩
              · obtain ⟨e', h1, h2⟩ := ih es g2.2 g3.2 g8.2 e he
                exact ⟨e', List.mem_cons_of_mem _ h1, h2⟩
        have back : ∀ e' ∈ es, ∃ e ∈ arr.toList, e.born = e'.1 := fun e' he' => by
          have : e'.1 ∈ arr.toList.map (·.born) := g2 ▸ List.mem_map.2 ⟨e', he', rfl⟩
          obtain ⟨e, he, hb⟩ := List.mem_map.1 this
          exact ⟨e, he, hb⟩
        rcases run_next (P := C.P) (ty := o.type) gi' g1 (fun e he => by obtain ⟨e', h1, h2, _⟩ := side e he; rw [← h2]; exact g7 e' h1) (Nat.le_refl _) with ⟨q1, q2⟩ | ⟨e, he, w1, hw1, q2⟩
        · refine ⟨.tuple #[.bool false], w, _, I, ?_, ⟨hΓ.1.put o.dst (dstOk_spec hd) (v := .tup [.lit (.bool false)]) ?_, hΓ.2.put _ _⟩, h0 ?_⟩
          · simp only [execOp, ho, rx, Sem.run_bind, q2, Result.andThen_ok, Sem.run_pure]
          · simp only [V.rep]; exact ⟨_, rfl, by simp [V.reps, V.rep]⟩
          · unfold leftE
            rw [List.filter_eq_nil_iff]
            intro e' he' hc
            obtain ⟨e, he, hb⟩ := back e' he'
            have : e ∈ (leftOf arr seen.toArray).toList := by
              unfold leftOf
              simp only [Array.toList_filter, List.mem_filter]
              exact ⟨he, by simpa [hb] using hc⟩
            rw [q1] at this
            cases this
        · have he2 : e ∈ arr.toList ∧ seen.contains e.born = false := by
            unfold leftOf at he
            simp only [Array.toList_filter, List.mem_filter] at he
            exact ⟨he.1, by simpa using he.2⟩
          obtain ⟨e', he', hb1, hb2, hb3⟩ := side e he2.1
          have hleft : e' ∈ leftE es seen := by
            unfold leftE
            rw [List.mem_filter]
            exact ⟨he', by simp only [hb1, he2.2, Bool.not_false]⟩
          -- the draw
          have hΓ1 : Γ C S a w1 I := by
            rcases hw1 with rfl | rfl
            · exact hΓ
            · exact ⟨hΓ.1.mono (Keeps.drew (fun _ => True) w I).stays, hΓ.2.quiet (fun _ => True) (fun _ _ => trivial) (Keeps.drew _ w I) hΓ.2.heap.inn⟩
          have hst1 : Stays w I w1 I := by
            rcases hw1 with rfl | rfl
            · exact Stays.refl _ _
            · exact (Keeps.drew (fun _ => True) w I).stays
          have gi1 : w1.heap[ib]? = some (.mapIter (some mb) last seen.toArray last) := by rcases hw1 with rfl | rfl <;> exact gi'
          have hib : ib ∈ S.boxes.map (·.1) := List.mem_map.2 ⟨_, getI_mem hi, rfl⟩
          obtain ⟨hW, hS⟩ := hΓ1.2.setX (o' := .mapIter (some mb) last (seen.toArray.push e.born) last) (z := .it mb last (seen ++ [e'.1]) last) hib gi1 (fun w' _ h1 _ => ⟨by rw [h1, hb1]; simp, gi.2⟩)
          refine ⟨.tuple #[.bool true, e.key, e.val], _, _, I, ?_, ⟨(hΓ1.1.mono hS).put o.dst (dstOk_spec hd) (v := .tup [.lit (.bool true), valV e'.2.1, e'.2.2]) ?_, hW.put _ _⟩, h1 e' hleft (find_ent g6 he')⟩
          · simp only [execOp, ho, rx, Sem.run_bind, q2, Result.andThen_ok, Sem.run_pure]
          · simp only [V.rep]
            refine ⟨_, rfl, ?_⟩
            simp only [V.reps, V.rep]
            exact ⟨trivial, hb2 ▸ valV_rep _, V.rep_mono hS _ _ (V.rep_mono hst1 _ _ hb3), trivial⟩
      · exact h.elim
    · exact h.elim
  · exact h.elim

def entryK (S : St) (it : V) (K : V → Prop) : Prop :=
  match it with
  | .lit (.pointer (some ⟨ib, 0, none⟩)) => match getI S.boxes ib with
    | some (mb, _, seen, last) => match seen.getLast?, getM S.boxes mb with
      | some stamp, some (_, es, cl) => match es.find? (fun x => x.1 == stamp) with
        | some e => cl = last ∧ K (.tup [valV e.2.1, e.2.2])
        | none => False
      | _, _ => False
    | none => False
  | _ => False

theorem find_side {w : World} {I : Cells} {stamp : Nat} : ∀ {l : List MapEntry} {es : List Ent} {e : Ent}, l.map (·.born) = es.map (·.1) → l.map (·.key) = es.map (·.2.1) → V.reps w I (es.map (·.2.2)) (l.map (·.val)) → es.find? (fun x => x.1 == stamp) = some e →
    ∃ y, l.find? (fun x => x.born == stamp) = some y ∧ e.2.1 = y.key ∧ V.rep w I e.2.2 y.val
  | [], [], _, _, _, _, h => by simp at h
  | y :: l, z :: es, e, h1, h2, h3, h => by
    simp only [List.map_cons, List.cons.injEq] at h1 h2
    simp only [List.map_cons, V.reps] at h3
    rw [List.find?_cons] at h ⊢
    rw [← h1.1] at h
    split at h
    · cases h; exact ⟨y, rfl, h2.1.symm, h3.1⟩
    · exact find_side h1.2 h2.2 h3.2 h
  | [], _ :: _, _, h, _, _, _ => by simp at h
  | _ :: _, [], _, h, _, _, _ => by simp at h

theorem step_entry {C S} {o : Oper} {x : Operand} {K : St → Prop} (ho : o.op = .entry x) (hd : dstOk C.N o = true) (h : entryK S (VL.ev S.σ x) fun v => K (S.put o.dst v)) : Step C S o K := by
  unfold entryK at h
  split at h
  · rename_i ib hx
    split at h
    · rename_i mb since seen last hi
      split at h
      · rename_i stamp ks es cl hl hm
        split at h
        · rename_i e he
          obtain ⟨rfl, h⟩ := h
          refine Step.of_value fun a w I hΓ => ?_
          have rx := hΓ.ev x
          rw [hx] at rx
          simp only [V.rep] at rx
          obtain ⟨arr, g1, g2, g3, g4, g5, g6, g7, g8, g9⟩ := MapAt.all (hΓ.2.heap.bx _ (getM_mem hm))
          have gi := hΓ.2.heap.bx _ (getI_mem hi)
          have gi' : w.heap[ib]? = some (.mapIter (some mb) since seen.toArray cl) := gi.1
          obtain ⟨y, y1, y2, y3⟩ := find_side g2 g3 g8 he
          have hback : seen.toArray.back? = some stamp := by rw [← hl]; simp [Array.back?, List.getLast?_eq_getElem?]
          have y1' : arr.find? (fun x => x.born == stamp) = some y := by rw [← Array.find?_toList]; exact y1
          refine ⟨.tuple #[y.key, y.val], w, _, I, ?_, ⟨hΓ.1.put o.dst (dstOk_spec hd) (v := .tup [valV e.2.1, e.2.2]) ?_, hΓ.2.put _ _⟩, h⟩
          · simp only [execOp, ho, rx, Sem.run_bind, Sem.run_pure]
            simp only [Instr.entry, getObj, Sem.run_bind, Sem.run, gi', g1, Result.andThen, hback, bne_self_eq_false, Bool.false_eq_true, if_false, y1']
            rfl
          · simp only [V.rep]
            exact ⟨_, rfl, by simp only [V.reps]; exact ⟨y2 ▸ valV_rep _, y3, trivial⟩⟩
        · exact h.elim
      · exact h.elim
    · exact h.elim
  · exact h.elim

end
end Go.VL

/- The V logic, part O: a slice of bytes made into a string. -/
namespace Go.VL
open Go.RowKit

def strOf (ns : List Int) : ByteArray := ⟨(ns.map fun n => UInt8.ofNat n.toNat).toArray⟩
theorem strOf_fold (ns : List Int) : ns.foldl (fun r n => r.push (UInt8.ofNat n.toNat)) ByteArray.empty = strOf ns := by
  have : ∀ (ns : List Int) (r : ByteArray), ns.foldl (fun r n => r.push (UInt8.ofNat n.toNat)) r = ⟨r.data ++ (ns.map fun n => UInt8.ofNat n.toNat).toArray⟩ := by
    intro ns
    induction ns with
    | nil => intro r; simp
    | cons n ns ih =>
      intro r
      rw [List.foldl_cons, ih]
      show ByteArray.mk _ = ByteArray.mk _
      congr 1
      apply Array.ext'
      simp [ByteArray.push]
  rw [this]
  show ByteArray.mk _ = ByteArray.mk _
  congr 1
  apply Array.ext'
  simp [ByteArray.empty, ByteArray.emptyWithCapacity]
  rfl

/-- The bytes, named. -/
def BytesF (cs : List V) (k : ByteArray → Prop) (_ : Fix k) : Prop := ∃ ns : List Int, cs = ns.map (fun n => V.lit (.int .u8 n)) ∧ k (strOf ns)

/-- A slice of bytes into a string. -/
def bytesD (P : Program) (S : St) (e : TypeId) (v : V) (K : V → Prop) : Prop :=
  match v with
  | .lit (.slice none _ _) => P.underlying e = some (.int .u8) ∧ K (.lit (.string ⟨#[]⟩))
  | .lit (.slice (some ⟨b, o, none⟩) n _) => P.underlying e = some (.int .u8) ∧ match getB S.boxes b with
    | some cs => o + n ≤ cs.length ∧ BytesF ((cs.drop o).take n) (fun x => K (.lit (.string x))) .mk
    | none => False
  | .list _ k es => P.underlying e = some (.int .u8) ∧ k = 1 ∧ (∀ e ∈ es, e.length = 1) ∧ BytesF es.flatten (fun x => K (.lit (.string x))) .mk
  | _ => False
def convB (P : Program) (S : St) (s t : TypeId) (v : V) (K : V → Prop) : Prop :=
  match P.underlying s, P.underlying t with
  | some (.slice e), some .string => bytesD P S e v K
  | _, _ => convK P s t v K

section
variable {P : Program}
theorem run_bytes {w : World} {I : Cells} {b o : Nat} {ns : List Int} {c : Nat} {s t e : TypeId} (hs : P.underlying s = some (.slice e)) (he : P.underlying e = some (.int .u8)) (ht : P.underlying t = some .string)
    (h : Has w I (ns.map fun n => V.lit (.int .u8 n)) b o) : (convert s t (.slice (some ⟨b, o, none⟩) ns.length c)).run P w = .ok (.string (strOf ns)) w := by
  rw [run_convert_bytes_string w s t e _ _ _ hs he ht]
  rw [run_bytesToString w _ _ _ ns, strOf_fold]
  have := run_loadCells (P := P) w ⟨b, o, none⟩ ns.length (fun j => (ns.map (Value.int .u8)).getD j undef) (fun j hj => by
    obtain ⟨x, h1, h2⟩ := h j (.lit (.int .u8 ns[j])) (by simp [hj])
    simp only [V.rep] at h2
    rw [Addr.add_lit, h1, h2]
    simp [List.getD, hj])
  rw [this]
  congr 1
  apply Array.ext'
  simp only [List.toList_toArray]
  refine List.ext_getElem? fun j => ?_
  by_cases hj : j < ns.length
  · simp [hj, List.getD]
  · simp [hj]

theorem step_convert {C S} {o : Oper} {s t : TypeId} {x : Operand} {K : St → Prop} (ho : o.op = .convert s t x) (hd : dstOk C.N o = true) (h : convB C.P S s t (VL.ev S.σ x) fun v => K (S.put o.dst v)) : Step C S o K := by
  have fin : ∀ ns : List Int, K (S.put o.dst (.lit (.string (strOf ns)))) → (∀ a w I, Γ C S a w I → (convert s t (a.eval x)).run C.P w = .ok (.string (strOf ns)) w) → Step C S o K := fun ns hK hr =>
    Step.of_value fun a w I hΓ => ⟨.string (strOf ns), w, _, I, by simp only [execOp, ho, Sem.run_bind, hr a w I hΓ, Result.andThen_ok, Sem.run_pure], ⟨hΓ.1.put o.dst (dstOk_spec hd) (v := .lit (.string (strOf ns))) (by simp only [V.rep]), hΓ.2.put _ _⟩, hK⟩
  unfold convB at h
  split at h
  rotate_left
  · obtain ⟨v, hv, hk⟩ := det_conv (C := C) ho h
    exact Step.det hd hv hk
  rename_i e hs ht
  unfold bytesD at h
  split at h
  · rename_i n c hx
    obtain ⟨he, hK⟩ := h
    refine fin [] hK fun a w I hΓ => ?_
    have rx := hΓ.ev x
    rw [hx] at rx
    simp only [V.rep] at rx
    rw [rx, run_convert_bytes_string w s t e _ _ _ hs he ht]
    rfl
  · rename_i b off n c hx
    obtain ⟨he, h⟩ := h
    split at h
    · rename_i cs hb
      obtain ⟨hle, ns, hns, hK⟩ := h
      refine fin ns hK fun a w I hΓ => ?_
      have rx := hΓ.ev x
      rw [hx] at rx
      simp only [V.rep] at rx
      have hl : ns.length = n := by
        have := congrArg List.length hns
        simp at this
        omega
      have hh := (Has.of_box (hΓ.2.heap.bx _ (getB_mem hb))).drop off
      rw [rx, ← hl]
      refine run_bytes hs he ht (I := I) fun j v hv => ?_
      rw [← hns] at hv
      have hv' : (cs.drop off)[j]? = some v := by
        rw [List.getElem?_take] at hv
        split at hv
        · exact hv
        · cases hv
      simpa using hh j v hv'
    · exact h.elim
  · rename_i own k es hx
    obtain ⟨he, rfl, hlen, ns, hns, hK⟩ := h
    refine fin ns hK fun a w I hΓ => ?_
    have rx := hΓ.ev x
    rw [hx] at rx
    simp only [V.rep] at rx
    obtain ⟨_, ad, c, h1, h2, h3⟩ := rx
    have hfl : ∀ es : List (List V), (∀ e ∈ es, e.length = 1) → es.flatten.length = es.length := by
      intro es
      induction es with
      | nil => intro _; rfl
      | cons e es ih => intro h; simp [ih (fun e he => h e (List.mem_cons_of_mem _ he)), h e List.mem_cons_self]; omega
    have hl : ns.length = es.length := by
      have := congrArg List.length hns
      rw [hfl es hlen] at this
      simpa using this.symm
    rcases h3 with h3 | ⟨b, off, h4, h5⟩
    · subst h3
      have : ns = [] := by simpa using hl
      subst this
      cases ad with
      | none =>
        rw [h1, run_convert_bytes_string w s t e _ _ _ hs he ht]
        rfl
      | some ad =>
        rw [h1, run_convert_bytes_string w s t e _ _ _ hs he ht, run_bytesToString w ad _ _ [] (by simp [loadCells]; rfl), strOf_fold]
    · subst h4
      rw [h1, ← hl]
      refine run_bytes hs he ht (I := I) ?_
      have hat : V.ats w I es.flatten b off := by
        clear hns hl hlen h1 h2 hx
        induction es generalizing off with
        | nil => simp only [List.flatten_nil, V.ats]
        | cons e es ih =>
          simp only [V.lies] at h5
          rw [List.flatten_cons, ats_append]
          exact ⟨h5.1, by rw [h5.2.1]; exact ih _ h5.2.2⟩
      rw [hns] at hat
      exact Has.of_ats hat
  · exact h.elim
end
end Go.VL

/- The V logic, part P: append onto an owned row, from a list or a string. -/
namespace Go.VL
open Go.RowKit

theorem append_coreS {C S w I} (hW : ΓW C S w I) {t tx ty e : TypeId} {k by_ : Nat} {z : List Value} (ht : C.P.underlying t = some (.slice e)) (hk : tsz C.P e = some k) (hby : tby C.P e = some by_) (hz : tzr C.P e = some z)
    (hby0 : 0 < by_) (hzl : z.length = k) {r : Row} {rs : List Row} (hrows : S.rows = r :: rs) (hrk : r.k = k) (hre : r.e = e) {es fs : List (List V)} (hl : V.rep w I (.list (some r.x) k es) r.x)
    {x : Value} {news : List Value} (hfk : ∀ e' ∈ fs, e'.length = k) (hn1 : V.reps w I fs.flatten news) (hn2 : ∀ u ∈ news, one u) (hsrc : Src C.P k tx x fs.length news w) (hbound : (es.length + fs.length) * by_ ≤ 140737488355328) :
    ∃ y' w' I', (Builtin.append_ #[t, tx] ty #[r.x, x]).run C.P w = .ok y' w' ∧ ΓW C { S with rows := ⟨y', k, e⟩ :: rs } w' I' ∧ Stays w I w' I' ∧ V.rep w' I' (.list (some y') k (es ++ fs)) y' := by
  have hr := hW.heap.rw r (hrows ▸ List.mem_cons_self)
  obtain ⟨hk0, ⟨e0, xs0, hlen0, hown⟩, hspare⟩ := hr
  rw [hrk] at hk0 hlen0 hown hspare
  have hl' := hl
  simp only [V.rep] at hl'
  obtain ⟨_, a0, c0, hrx, hle0, hlies⟩ := hl'
  obtain ⟨i, hi, hi1, hi2, zv, hi3, hi4⟩ : ∃ i, C.P.info? e = some i ∧ i.size = k ∧ i.bytes = by_ ∧ ∃ zv, i.zero = some zv ∧ zv.cells.toList = z := by
    unfold tsz at hk; unfold tby at hby; unfold tzr at hz
    cases hinf : C.P.info? e with
    | none => simp [hinf] at hk
    | some i =>
      cases hzz : i.zero with
      | none => simp [hinf, hzz] at hz
      | some zv => simp [hinf, hzz] at hk hby hz; exact ⟨i, rfl, hk, hby, zv, hzz ▸ rfl, hz⟩
  -- nothing is appended
  by_cases hfs : fs = []
  · subst hfs
    have hn0 : news = [] := by
      cases news with
      | nil => rfl
      | cons u v => simp [V.reps] at hn1
    subst hn0
    refine ⟨r.x, w, I, ?_, ?_, Stays.refl _ _, by simpa using hl⟩
    · rw [hrx]
      have hc := hsrc.cells
      have hn := hsrc.len
      simp only [List.length_nil] at hc hn
      rcases hsrc.kind with ⟨e', hk'⟩ | hk' <;> cases a0 <;> simp [Builtin.append_, run_underlying ht, run_underlying hk', sizeOf, typeInfo, hi, hi1, hn, hle0, hc, storeCells]
    · have : ({ S with rows := ⟨r.x, k, e⟩ :: rs } : St) = S := by
        cases S with
        | mk σ boxes rows => simp only at hrows; subst hrows; cases r; simp_all
      rw [this]; exact hW
  have hm0 : 0 < fs.length := by cases fs with | nil => exact absurd rfl hfs | cons _ _ => simp
  have hnl : news.length = fs.length * k := by rw [reps_length hn1, flatten_len hfk]
  have hzs : zv.cells.size = k := by have := congrArg List.length hi4; simpa [hzl] using this
  have hmx : es.length + fs.length ≤ 140737488355328 := Nat.le_trans (Nat.le_mul_of_pos_right _ hby0) hbound
  have hmaxLen : es.length + fs.length ≤ maxLen := by simp only [maxLen]; omega
  have hfb : fs.length * by_ ≤ 140737488355328 := Nat.le_trans (Nat.mul_le_mul_right _ (Nat.le_add_left _ _)) hbound
  have hWd : ΓW C { S with rows := rs } w.drew I := by
    have := (hW.drop hrows).quiet (fun _ => True) (fun _ _ => trivial) (Keeps.drew _ w I) hW.heap.inn
    exact this
  -- a new block
  have grown : ∀ (olds : List Value), olds.length = es.length * k → V.reps w I es.flatten olds → (∀ x ∈ olds, one x) → (∀ e' ∈ es, e'.length = k) → ∀ (old : Nat) (ar : Array Value), ar.toList = olds ++ news ++ (Builtin.zeroCells zv.cells (grownCap w (es.length + fs.length) old e - (es.length + fs.length))).toList →
      ∃ I', ΓW C { S with rows := ⟨.slice (some ⟨w.heap.size, 0, none⟩) (es.length + fs.length) (grownCap w (es.length + fs.length) old e), k, e⟩ :: rs } (w.drew.alloc (.cells ar e)) I' ∧ Stays w I (w.drew.alloc (.cells ar e)) I' ∧
        V.rep (w.drew.alloc (.cells ar e)) I' (.list (some (.slice (some ⟨w.heap.size, 0, none⟩) (es.length + fs.length) (grownCap w (es.length + fs.length) old e))) k (es ++ fs)) (.slice (some ⟨w.heap.size, 0, none⟩) (es.length + fs.length) (grownCap w (es.length + fs.length) old e)) := by
    intro olds h1 h2 h3 h4 old ar har
    have hge := grownCap_ge w (es.length + fs.length) old e
    have hcm : grownCap w (es.length + fs.length) old e ≤ maxLen := grownCap_le_maxLen w (es.length + fs.length) old e hmaxLen
    have hlen : (es ++ fs).length = es.length + fs.length := by simp
    have hon : (olds ++ news).length = (es ++ fs).length * k := by rw [List.length_append, h1, hnl, hlen, Nat.add_mul]
    have htk : ar.toList.take ((es ++ fs).length * k) = olds ++ news := by rw [har, ← hon, List.take_left']; rfl
    have hdrew : Stays w I w.drew I := (Keeps.drew (fun _ => True) w I).stays
    obtain ⟨I', g1, g2, g3⟩ := hWd.newRow ar e k hk0 (es ++ fs) (grownCap w (es.length + fs.length) old e) (by
        have : ar.toList.length = _ := congrArg List.length har
        simp only [List.length_append, Array.length_toList, size_zc, hzs, h1, hnl] at this
        rw [this, ← Nat.add_mul, ← Nat.add_mul]
        congr 1
        omega) (by rw [hlen]; exact hge) hcm (fun e' he => by
          rcases List.mem_append.1 he with he | he
          · exact h4 e' he
          · exact hfk e' he) (by
        rw [htk]
        intro x hx
        rcases List.mem_append.1 hx with hx | hx
        · exact h3 x hx
        · exact hn2 x hx) (by
        rw [htk, List.flatten_append]
        exact V.reps_mono hdrew _ _ (reps_append h2 hn1))
    rw [hlen] at g1 g3
    exact ⟨I', g1, hdrew.trans g2, g3⟩
  rcases hown with ⟨hnil, hn0⟩ | ⟨g, cap, cur, hblk, _, hg, hnc, hcm, hcs, htake⟩
  · -- the nil slice
    have hes : es = [] := by
      rw [hnil] at hrx
      simp only [Value.slice.injEq] at hrx
      exact List.eq_nil_of_length_eq_zero hrx.2.1.symm
    subst hes
    have hrun := run_append_grow_src (P := C.P) w t tx ty e i zv ht hi hi3 none 0 0 [] (run_firstCells_none w.drew i.size 0 0 0) x fs.length news (hi1 ▸ hsrc) (by omega) (by omega) (by rw [hi2]; exact growslice_fits (by omega) (by simpa using hbound))
    obtain ⟨I', g1, g2, g3⟩ := grown [] (by simp) (by simp [V.reps]) (by simp) (by simp) 0 (([] ++ news).toArray ++ Builtin.zeroCells zv.cells (grownCap w (0 + fs.length) 0 e - (0 + fs.length))) (by simp)
    simp only [List.length_nil] at g1 g2 g3
    exact ⟨_, _, I', by rw [hnil]; exact hrun, g1, g2, g3⟩
  · have hn : slen r.x = es.length := by rw [hrx]; rfl
    rw [hn] at hblk hnc htake hlen0 hspare
    have hzb : a0 = some ⟨g, 0, none⟩ ∧ c0 = cap := by
      rw [hblk] at hrx
      simp only [Value.slice.injEq] at hrx
      exact ⟨hrx.1.symm, hrx.2.2.symm⟩
    -- what the row holds
    have hold : ∃ olds, olds.length = es.length * k ∧ V.reps w I es.flatten olds ∧ (∀ x ∈ olds, one x) ∧ (∀ e' ∈ es, e'.length = k) ∧ V.lies w I k es g 0 ∧ ∀ j v, olds[j]? = some v → w.cell? ((⟨g, 0, none⟩ : Addr).add j) = some v := by
      rcases hlies with rfl | ⟨b, o, hb, hlies⟩
      · exact ⟨[], by simp, by simp [V.reps], by simp, by simp, by simp only [V.lies], by simp⟩
      · rw [hzb.1] at hb
        simp only [Option.some.injEq, Addr.mk.injEq, and_true] at hb
        obtain ⟨rfl, rfl⟩ := hb
        obtain ⟨p1, olds, p2, p3, p4⟩ := lies_vals hlies
        exact ⟨olds, by rw [reps_length p2, flatten_len p1], p2, p3, p1, hlies, fun j v hv => by rw [Addr.add_lit]; exact (p4 j v hv).1⟩
    obtain ⟨olds, o1, o2, o3, o4, o5, o6⟩ := hold
    by_cases hroom : es.length + fs.length ≤ cap
    · -- in place
      have hfit : es.length * k + news.length ≤ cur.size := by rw [hnl, hcs, ← Nat.add_mul]; exact Nat.mul_le_mul_right _ hroom
      have hrun := run_append_room_own (P := C.P) w t tx ty e i ht hi g 0 es.length cap x fs.length news (hi1 ▸ hsrc) hroom cur e0 hg (by rw [hi1, Nat.zero_add]; exact hfit)
      rw [hi1, Nat.zero_add] at hrun
      have hgb : r.x.ownBlock = some g := by rw [hblk]; rfl
      have hIg : ∀ o, I g o → o < es.length * k := fun o hi => by
        rcases Nat.lt_or_ge o (es.length * k) with h | h
        · exact h
        · exact absurd hi (hspare g hgb o h)
      generalize hcur' : (cur.toList.take (es.length * k) ++ news ++ cur.toList.drop (es.length * k + news.length)).toArray = cur' at hrun
      have hcur'l : cur'.toList = cur.toList.take (es.length * k) ++ news ++ cur.toList.drop (es.length * k + news.length) := by rw [← hcur']
      have hcs' : cur'.size = cap * k := by
        have := congrArg List.length hcur'l
        simp only [Array.length_toList, List.length_append, List.length_take, List.length_drop] at this
        rw [this, ← hcs]
        omega
      have hw' : (w.setRow g cur').heap[g]? = some (.cells cur' e0 (0, 0)) := setRow_heap w g cur cur' e0 (0, 0) hg
      have hst : Stays w I (w.setRow g cur') (fun b o => I b o ∨ (b = g ∧ es.length * k ≤ o ∧ o < (es.length + fs.length) * k)) := fun b o hi => by
        refine ⟨.inl hi, ?_⟩
        by_cases hb : b = g
        · subst hb
          have ho := hIg o hi
          rw [cell_setRow_same w b o cur cur' e0 (0, 0) hg]
          have : w.cell? ⟨b, o, none⟩ = cur[o]? := by simp [World.cell?, hg]
          rw [this, ← Array.getElem?_toList, hcur'l, List.append_assoc, List.getElem?_append_left (by simp; omega), List.getElem?_take, if_pos ho, Array.getElem?_toList]
        · exact cell_setRow_other w g cur' _ hb
      have hblkm : g ∈ blks S.boxes S.rows := by
        rw [hrows]
        exact List.mem_append.2 (.inr (List.mem_filterMap.2 ⟨r, List.mem_cons_self, hgb⟩))
      have hnd := hW.heap.nodup
      rw [hrows] at hnd
      have hperm : (blks S.boxes (r :: rs)).Perm (g :: blks S.boxes rs) := by
        have : Row.blk r = some g := hgb
        simp only [blks, List.filterMap_cons, this]
        exact List.perm_middle
      have hg' : g ∉ blks S.boxes rs := (List.nodup_cons.1 (hperm.nodup_iff.1 hnd)).1
      have W0 := hW.drop hrows
      have hH : Heap (w.setRow g cur') (fun b o => I b o ∨ (b = g ∧ es.length * k ≤ o ∧ o < (es.length + fs.length) * k)) S.boxes rs := by
        refine W0.heap.step hst (fun b hb => setRow_other w g b cur' (fun e => hg' (e ▸ hb))) (fun b hb o hi => ?_) (fun b o hi => ?_)
        · rcases hi with hi | ⟨rfl, _⟩
          · exact hi
          · exact absurd hb hg'
        · rcases hi with hi | ⟨rfl, _⟩
          · simpa using hW.heap.inn b o hi
          · simpa using (Array.getElem?_eq_some_iff.1 hg).1
      have hlen : (es ++ fs).length = es.length + fs.length := by simp
      have htk' : cur'.toList.take ((es.length + fs.length) * k) = olds ++ news := by
        have e1 : cur.toList.take (es.length * k) = olds := by
          apply List.ext_getElem?
          intro j
          rw [List.getElem?_take]
          by_cases hj : j < es.length * k
          · have hjo : j < olds.length := by omega
            have := o6 j _ (List.getElem?_eq_getElem hjo)
            rw [Addr.add_lit] at this
            simp only [World.cell?, hg, Option.isSome_none, Bool.false_eq_true, if_false, Nat.zero_add] at this
            rw [if_pos hj, Array.getElem?_toList, this, List.getElem?_eq_getElem hjo]
          · rw [if_neg hj, List.getElem?_eq_none (by omega)]
        rw [hcur'l, e1, List.take_left']
        rw [List.length_append, o1, hnl, Nat.add_mul]
      refine ⟨.slice (some ⟨g, 0, none⟩) (es.length + fs.length) cap, w.setRow g cur', _, by rw [hblk]; exact hrun, ⟨⟨hH.bx, fun r' hr' => ?_, ?_, hH.inn⟩, fun b hb => ?_, ?_, hW.lo⟩, hst, ?_⟩
      · rcases List.mem_cons.1 hr' with rfl | hr'
        · refine ⟨hk0, ⟨e0, _, by simp only [slen, List.length_append, o1, hnl, Nat.add_mul], .inr ⟨g, cap, cur', rfl, Nat.zero_le _, hw', hroom, hcm, hcs', htk'⟩⟩, fun g2 hg2 o ho hi => ?_⟩
          simp only [Value.ownBlock, Option.some.injEq] at hg2
          subst hg2
          simp only [slen] at ho
          rcases hi with hi | ⟨_, _, hi⟩
          · have := hIg o hi
            have : es.length * k ≤ (es.length + fs.length) * k := Nat.mul_le_mul_right _ (Nat.le_add_right _ _)
            omega
          · omega
        · exact hH.rw r' hr'
      · have : (blks S.boxes ((⟨.slice (some ⟨g, 0, none⟩) (es.length + fs.length) cap, k, e⟩ : Row) :: rs)).Perm (g :: blks S.boxes rs) := by
          simp only [blks, List.filterMap_cons, Row.blk, Value.ownBlock]
          exact List.perm_middle
        exact this.nodup_iff.2 (hperm.nodup_iff.1 hnd)
      · have : (blks S.boxes ((⟨.slice (some ⟨g, 0, none⟩) (es.length + fs.length) cap, k, e⟩ : Row) :: rs)).Perm (g :: blks S.boxes rs) := by
          simp only [blks, List.filterMap_cons, Row.blk, Value.ownBlock]
          exact List.perm_middle
        exact hW.mine b (by rw [hrows]; exact hperm.mem_iff.2 (this.mem_iff.1 hb))
      · exact hW.keeps.trans ⟨rfl, rfl, rfl, by simp, fun b hb => setRow_other w g b cur' (fun e => hW.mine g hblkm (e ▸ hb)), hst, (fun b o hb hi => by
          rcases hi with hi | ⟨rfl, _⟩
          · exact hi
          · exact absurd hb (hW.mine b hblkm)), Nat.le_refl _⟩
      · simp only [V.rep]
        refine ⟨fun y hy => (Option.some.inj hy), _, cap, by rw [hlen], by rw [hlen]; exact hroom, .inr ⟨g, 0, rfl, ?_⟩⟩
        rw [lies_append]
        refine ⟨V.lies_mono hst _ _ _ _ o5, lies_of_cells (V.reps_mono hst _ _ hn1) hfk fun j x hx => ⟨?_, .inr ⟨rfl, by omega, ?_⟩, hn2 x (List.mem_of_getElem? hx)⟩⟩
        · rw [cell_setRow_same w g _ cur cur' e0 (0, 0) hg, ← Array.getElem?_toList, hcur'l, List.append_assoc, Nat.zero_add]
          have ht : (cur.toList.take (es.length * k)).length = es.length * k := by simp; omega
          rw [List.getElem?_append_right (by omega), ht, Nat.add_sub_cancel_left, List.getElem?_append_left (List.getElem?_eq_some_iff.1 hx).1]
          exact hx
        · have := (List.getElem?_eq_some_iff.1 hx).1
          rw [Nat.add_mul]; omega
    · -- a new array
      have hold' : (Builtin.firstCells i.size es.length (.slice (some ⟨g, 0, none⟩) es.length cap)).run C.P w.drew = .ok olds.toArray w.drew :=
        run_firstCells_some w.drew i.size es.length ⟨g, 0, none⟩ es.length cap olds (by rw [hi1]; exact o1) (by simpa using o6)
      have hrun := run_append_grow_src (P := C.P) w t tx ty e i zv ht hi hi3 (some ⟨g, 0, none⟩) es.length cap olds hold' x fs.length news (hi1 ▸ hsrc) (by omega) (by omega) (by rw [hi2]; exact growslice_fits (by omega) hbound)
      obtain ⟨I', g1, g2, g3⟩ := grown olds o1 o2 o3 o4 cap ((olds ++ news).toArray ++ Builtin.zeroCells zv.cells (grownCap w (es.length + fs.length) cap e - (es.length + fs.length))) (by simp)
      exact ⟨_, _, I', by rw [hblk]; exact hrun, g1, g2, g3⟩

end Go.VL

/- The V logic, part 13: append and calls as steps; 'aOps': a region walked in the order of the text. -/
namespace Go.VL
open Go.RowKit

/-- 'A and what follows': what follows is not visited by simp. -/
def And2 (A B : Prop) : Prop := A ∧ B
def AllV (K : Value → Prop) : Prop := ∀ y, K y

def appD (S : St) (d : Option Nat) (k by_ : Nat) (e : TypeId) (sv : V) (fs : List (List V)) (K : St → Prop) : Prop :=
  match sv with
  | .lit (.slice none 0 0) => And2 (fs.length * by_ ≤ 140737488355328) (AllV fun y => K ((S.addRow ⟨y, k, e⟩).put d (.list (some y) k fs)))
  | .list (some y) k' es => And2 (k' = k) (takeR S.rows y fun r rs => And2 (r.k = k ∧ r.e = e ∧ (es.length + fs.length) * by_ ≤ 140737488355328) (AllV fun y' => K ((S.setRows (⟨y', k, e⟩ :: rs)).put d (.list (some y') k (es ++ fs)))))
  | _ => False

def appendK (P : Program) (S : St) (d : Option Nat) (t : TypeId) (sv xv : V) (K : St → Prop) : Prop :=
  match P.underlying t with
  | some (.slice e) => match tsz P e, tby P e, tzr P e with
    | some k, some by_, some z => (0 < k ∧ 0 < by_ ∧ z.length = k) ∧ onL xv k fun fs => appD S d k by_ e sv fs K
    | _, _, _ => False
  | _ => False

/-- A list, as the second operand of an append. -/
theorem srcOk_list {C : Ctx} {S : St} {t e : TypeId} {k : Nat} {x : V} {fs : List (List V)} (hu : C.P.underlying t = some (.slice e)) (hfs : ∀ w I xv, V.rep w I x xv → ∃ a c, xv = .slice a fs.length c ∧ fs.length ≤ c ∧ (fs = [] ∨ ∃ b o, a = some ⟨b, o, none⟩ ∧ V.lies w I k fs b o)) :
    ∀ w I xv, ΓW C S w I → V.rep w I x xv → (∀ e' ∈ fs, e'.length = k) ∧ ∃ news, V.reps w I fs.flatten news ∧ (∀ u ∈ news, one u) ∧ Src C.P k t xv fs.length news w := fun w I xv _ hr => by
  obtain ⟨a, c, rfl, hlec, hxl⟩ := hfs w I xv hr
  by_cases h0 : fs = []
  · subst h0
    refine ⟨by simp, [], by simp [V.reps], by simp, ?_⟩
    cases a with
    | none => exact Src.ofNil (P := C.P) w hu c
    | some a => exact Src.ofSlice (P := C.P) w hu a 0 c [] (by simp) (by simp) (by simp)
  · obtain ⟨b, o, rfl, hlf⟩ := hxl.resolve_left h0
    obtain ⟨hfk, news, hn1, hn2, hn3⟩ := lies_vals hlf
    exact ⟨hfk, news, hn1, hn2, Src.ofSlice (P := C.P) w hu ⟨b, o, none⟩ fs.length c news (by rw [reps_length hn1, flatten_len hfk]) (fun j u hj => by rw [Addr.add_lit]; exact (hn3 j u hj).1) (fun u hu => one_cell' (hn2 u hu))⟩

def strE (s : ByteArray) : List (List V) := (bytesV s).map fun v => [v]
theorem strE_flat (s : ByteArray) : (strE s).flatten = bytesV s := by
  unfold strE
  induction bytesV s with
  | nil => rfl
  | cons v r ih => simp [ih]
theorem strE_len (s : ByteArray) : (strE s).length = s.size := by simp [strE, bytesV]
theorem srcOk_str {C : Ctx} {S : St} {t : TypeId} {s : ByteArray} (hu : C.P.underlying t = some .string) :
    ∀ w I xv, ΓW C S w I → V.rep w I (.lit (.string s)) xv → (∀ e' ∈ strE s, e'.length = 1) ∧ ∃ news, V.reps w I (strE s).flatten news ∧ (∀ u ∈ news, one u) ∧ Src C.P 1 t xv (strE s).length news w := fun w I xv _ hr => by
  simp only [V.rep] at hr
  subst hr
  refine ⟨fun e he => ?_, byteCells s, by rw [strE_flat]; exact reps_bytes s, fun u hu => ?_, by rw [strE_len]; exact Src.ofString (P := C.P) w hu s⟩
  · obtain ⟨v, _, rfl⟩ := List.mem_map.1 he; rfl
  · obtain ⟨_, _, rfl⟩ := List.mem_map.1 hu; exact trivial

theorem step_appD {C S} {o : Oper} {c : Call} {s x : Operand} {t tx e : TypeId} {k by_ : Nat} {z : List Value} {fs : List (List V)} {K : St → Prop} (ho : o.op = .call c) (hc : c.callee = .builtin .append) (ha : c.args.toList = [s, x]) (hty : c.argTypes.toList = [t, tx]) (hd : dstOk C.N o = true)
    (hu : C.P.underlying t = some (.slice e)) (hk : tsz C.P e = some k) (hby : tby C.P e = some by_) (hz : tzr C.P e = some z) (h0 : 0 < k) (hb0 : 0 < by_) (hzl : z.length = k)
    (src : ∀ w I xv, ΓW C S w I → V.rep w I (VL.ev S.σ x) xv → (∀ e' ∈ fs, e'.length = k) ∧ ∃ news, V.reps w I fs.flatten news ∧ (∀ u ∈ news, one u) ∧ Src C.P k tx xv fs.length news w)
    (h : appD S o.dst k by_ e (VL.ev S.σ s) fs K) : Step C S o K := by
  have ha' : c.args = #[s, x] := by rw [← Array.toArray_toList (xs := c.args), ha]
  have ht' : c.argTypes = #[t, tx] := by rw [← Array.toArray_toList (xs := c.argTypes), hty]
  have run : ∀ (a : Act) (w w' : World) (y : Value), (Builtin.append_ #[t, tx] o.type #[a.eval s, a.eval x]).run C.P w = .ok y w' → (execOp a.eval o).run C.P w = .ok (.value y) w' := fun a w w' y hr => by
    simp only [execOp, ho, resolve, hc, ha', ht', invoke, builtin]
    simp only [Sem.run_bind, Sem.run_pure, Result.andThen_ok, List.map_toArray, List.map_cons, List.map_nil, hr]
  unfold appD at h
  split at h
  · rename_i hs
    obtain ⟨hbd, hK⟩ := h
    refine Step.of_value fun a w I hΓ => ?_
    obtain ⟨hfk, news, n1, n2, hsrc⟩ := src w I _ hΓ.2 (hΓ.ev x)
    have rs := hΓ.ev s
    rw [hs] at rs
    simp only [V.rep] at rs
    have W := hΓ.2.addNil k h0 e
    obtain ⟨y', w', I', g1, g2, g3, g4⟩ := append_coreS (ty := o.type) W hu hk hby hz hb0 hzl (r := ⟨.slice none 0 0, k, e⟩) (rs := S.rows) rfl rfl rfl (es := []) (by
      simp only [V.rep]
      exact ⟨fun y hy => (Option.some.inj hy), none, 0, rfl, Nat.le_refl _, .inl trivial⟩) hfk n1 n2 hsrc (by simpa using hbd)
    refine ⟨y', w', _, I', run a w w' y' (by rw [rs]; exact g1), ⟨(hΓ.1.mono g3).put o.dst (dstOk_spec hd) g4, ΓW.put (S := S.addRow ⟨y', k, e⟩) g2 _ _⟩, hK y'⟩
  · rename_i y k' es hs
    obtain ⟨rfl, h⟩ := h
    obtain ⟨r, rs, ⟨⟨hrk, hre, hbd⟩, hK⟩, hry, hp⟩ := takeR_spec h
    refine Step.of_value fun a w I hΓ => ?_
    obtain ⟨hfk, news, n1, n2, hsrc⟩ := src w I _ hΓ.2 (hΓ.ev x)
    have rsv := hΓ.ev s
    rw [hs] at rsv
    have hyx : a.eval s = y := by
      have := rsv
      simp only [V.rep] at this
      exact this.1 y rfl
    rw [hyx] at rsv
    have W := hΓ.2.perm hp
    obtain ⟨y', w', I', g1, g2, g3, g4⟩ := append_coreS (ty := o.type) W hu hk hby hz hb0 hzl (r := r) (rs := rs) rfl hrk hre (es := es) (by rw [hry]; exact rsv) hfk n1 n2 hsrc hbd
    refine ⟨y', w', _, I', run a w w' y' (by rw [hyx, ← hry]; exact g1), ⟨(hΓ.1.mono g3).put o.dst (dstOk_spec hd) g4, ΓW.put (S := ({ S with rows := ⟨y', k', e⟩ :: rs } : St)) g2 _ _⟩, hK y'⟩
  · exact h.elim

theorem step_append {C S} {o : Oper} {c : Call} {s x : Operand} {t : TypeId} {K : St → Prop} (ho : o.op = .call c) (hc : c.callee = .builtin .append) (ha : c.args.toList = [s, x]) (hty : c.argTypes.toList = [t, t]) (hd : dstOk C.N o = true)
    (h : appendK C.P S o.dst t (VL.ev S.σ s) (VL.ev S.σ x) K) : Step C S o K := by
  unfold appendK at h
  split at h
  · rename_i e hu
    split at h
    · rename_i k by_ z hk hby hz
      obtain ⟨⟨h0, hb0, hzl⟩, h⟩ := h
      obtain ⟨fs, h, hfs⟩ := onL_spec h
      exact step_appD ho hc ha hty hd hu hk hby hz h0 hb0 hzl (srcOk_list hu hfs) h
    · exact h.elim
  · exact h.elim

/-- A string's bytes onto an owned row. -/
def appSK (P : Program) (S : St) (d : Option Nat) (t tx : TypeId) (sv : V) (b : ByteArray) (K : St → Prop) : Prop :=
  match P.underlying t with
  | some (.slice e) => match tsz P e, tby P e, tzr P e with
    | some k, some by_, some z => (P.underlying tx = some .string ∧ k = 1 ∧ 0 < by_ ∧ z.length = k) ∧ appD S d k by_ e sv (strE b) K
    | _, _, _ => False
  | _ => False
theorem step_appS {C S} {o : Oper} {c : Call} {s x : Operand} {t tx : TypeId} {b : ByteArray} {K : St → Prop} (ho : o.op = .call c) (hc : c.callee = .builtin .append) (ha : c.args.toList = [s, x]) (hty : c.argTypes.toList = [t, tx]) (hd : dstOk C.N o = true) (hx : VL.ev S.σ x = .lit (.string b))
    (h : appSK C.P S o.dst t tx (VL.ev S.σ s) b K) : Step C S o K := by
  unfold appSK at h
  split at h
  · rename_i e hu
    split at h
    · rename_i k by_ z hk hby hz
      obtain ⟨⟨htx, rfl, hb0, hzl⟩, h⟩ := h
      exact step_appD ho hc ha hty hd hu hk hby hz (by decide) hb0 hzl (by rw [hx]; exact srcOk_str htx) h
    · exact h.elim
  · exact h.elim

/-! ### A call: some of the boxes go with it -/

/-- What a function without a body yields. -/
def ExtV (P : Program) (S : St) (g : FuncId) (zs : List V) (v : V) : Prop :=
  ∀ w I xs, Heap w I S.boxes S.rows → V.reps w I zs xs → ∃ x w', (callFunc g xs.toArray).run P w = .ok (.value x) w' ∧ (w' = w ∨ w' = w.drew) ∧ V.rep w' I v x

def callE (P : Program) (S : St) (d : Option Nat) (f : V) (args : List V) (K : St → Prop) : Prop :=
  match f with
  | .lit (.func (.func g) first cap) => match callB P g with
    | true => ∃ bs lf, S.boxes.Perm (bs ++ lf) ∧ Ok P g (first.toList.map .lit ++ args ++ cap.toList.map .lit) bs
      fun v bs' rs => ((bs' ++ lf).map (·.1)).Nodup → K (({ S with boxes := bs' ++ lf, rows := rs ++ S.rows } : St).put d v)
    | false => ∃ v, ExtV P S g (first.toList.map .lit ++ args ++ cap.toList.map .lit) v ∧ K (S.put d v)
  | _ => False

theorem Heap.perm {w I bs bs' rows} (h : Heap w I bs rows) (hp : bs.Perm bs') : Heap w I bs' rows :=
  ⟨fun p hp' => h.bx p (hp.mem_iff.2 hp'), h.rw, (List.Perm.append_right _ (hp.map _)).nodup_iff.1 h.nodup, h.inn⟩

theorem Ok.apply {C S w I} {g : FuncId} {args : List V} {xs : List Value} {bs lf : List (Nat × B)} {Q : V → List (Nat × B) → List Row → Prop} (h : Ok C.P g args bs Q) (hW : ΓW C S w I) (hp : S.boxes.Perm (bs ++ lf)) (hr : V.reps w I args xs) :
    Calls C.P g xs.toArray w fun e w' => ∃ x v bs' rs' I', e = .returned x ∧ V.rep w' I' v x ∧ Stays w I w' I' ∧ ΓW C { S with boxes := bs' ++ lf, rows := rs' ++ S.rows } w' I' ∧ Q v bs' rs' := by
  have hH := hW.heap.perm hp
  have hbl : (bs.map (·.1)).Nodup := by
    have h1 := (List.nodup_append.1 hH.nodup).1
    rw [List.map_append] at h1
    exact (List.nodup_append.1 h1).1
  have hbs : Heap w I bs [] := ⟨fun p hp' => hH.bx p (List.mem_append.2 (.inl hp')), by simp, by simpa [blks] using hbl, hH.inn⟩
  refine (h w I xs hr hbs).mono fun e w' ⟨x, v, bs', rs', I', he, hv, hk, hh, hn, hQ⟩ => ⟨x, v, bs', rs', I', he, hv, hk.stays, ?_, hQ⟩
  -- what is left and the rows are not the callee's
  have far : ∀ b ∈ blks lf S.rows, b < w.heap.size ∧ b ∉ bs.map (·.1) := fun b hb => by
    have hnd := hH.nodup
    simp only [blks, List.map_append, List.append_assoc] at hnd
    have := List.nodup_append.1 hnd
    refine ⟨hH.lt b ?_, fun hm => this.2.2 b hm b (by simpa [blks] using hb) rfl⟩
    simp only [blks, List.map_append, List.append_assoc]
    exact List.mem_append.2 (.inr (by simpa [blks] using hb))
  have Hl : Heap w I lf S.rows := by
    refine ⟨fun p hp' => hH.bx p (List.mem_append.2 (.inr hp')), hH.rw, ?_, hH.inn⟩
    have hnd := hH.nodup
    simp only [blks, List.map_append, List.append_assoc] at hnd
    exact (List.nodup_append.1 hnd).2.1
  have Hl' := Hl.step hk.stays (fun b hb => hk.block b (far b hb)) (fun b hb o => hk.old b o (far b hb)) hh.inn
  have hperm : (blks (bs' ++ lf) (rs' ++ S.rows)).Perm (blks bs' rs' ++ blks lf S.rows) := by
    simp only [blks, List.map_append, List.filterMap_append, List.append_assoc]
    refine List.Perm.append_left _ ?_
    rw [← List.append_assoc, ← List.append_assoc]
    exact List.Perm.append_right _ List.perm_append_comm
  refine ⟨⟨fun p hp' => ?_, fun r hr' => ?_, ?_, hh.inn⟩, fun b hb hF => ?_, ?_, hW.lo⟩
  · rcases List.mem_append.1 hp' with h1 | h1
    · exact hh.bx p h1
    · exact Hl'.bx p h1
  · rcases List.mem_append.1 hr' with h1 | h1
    · exact hh.rw r h1
    · exact Hl'.rw r h1
  · exact hperm.nodup_iff.2 (List.nodup_append.2 ⟨hh.nodup, Hl'.nodup, fun b hb c hc e => hn b hb (e ▸ far c hc)⟩)
  · have hm : b < w.heap.size ∧ b ∉ bs.map (·.1) := by
      refine ⟨Nat.lt_of_lt_of_le (hW.lo b hF) hW.keeps.size, fun hm => ?_⟩
      refine hW.mine b ?_ hF
      refine List.mem_append.2 (.inl ?_)
      obtain ⟨p, hp', rfl⟩ := List.mem_map.1 hm
      exact List.mem_map.2 ⟨p, hp.mem_iff.2 (List.mem_append.2 (.inl hp')), rfl⟩
    rcases List.mem_append.1 (hperm.mem_iff.1 hb) with hb | hb
    · exact hn b hb hm
    · refine hW.mine b ?_ hF
      simp only [blks, List.mem_append] at hb ⊢
      refine hb.imp (fun h1 => ?_) id
      obtain ⟨p, hp', rfl⟩ := List.mem_map.1 h1
      exact List.mem_map.2 ⟨p, hp.mem_iff.2 (List.mem_append.2 (.inr hp')), rfl⟩
  · refine hW.keeps.trans (hk.mono fun b hF => ⟨Nat.lt_of_lt_of_le (hW.lo b hF) hW.keeps.size, fun hm => ?_⟩)
    refine hW.mine b (List.mem_append.2 (.inl ?_)) hF
    obtain ⟨p, hp', rfl⟩ := List.mem_map.1 hm
    exact List.mem_map.2 ⟨p, hp.mem_iff.2 (List.mem_append.2 (.inl hp')), rfl⟩

theorem step_call {C S} {o : Oper} {c : Call} {f : Operand} {K : St → Prop} (ho : o.op = .call c) (hc : c.callee = .value f) (hd : dstOk C.N o = true) (h : callE C.P S o.dst (VL.ev S.σ f) (c.args.toList.map (VL.ev S.σ)) K) : Step C S o K := by
  unfold callE at h
  split at h
  · rename_i g first cap hf
    intro a w I hΓ Q
    have rf := hΓ.ev f
    rw [hf] at rf
    simp only [V.rep] at rf
    split at h
    case h_2 =>
      obtain ⟨v, hv, hK⟩ := h
      have hr := reps_append (reps_append (reps_lits (w := w) (I := I) first.toList) (hΓ.evs c.args.toList)) (reps_lits cap.toList)
      obtain ⟨x, w', hx, hw, hrep⟩ := hv w I _ hΓ.2.heap hr
      have e : (first.toList ++ c.args.toList.map a.eval ++ cap.toList).toArray = first ++ c.args.map a.eval ++ cap := by
        apply Array.ext'
        simp
      rw [e] at hx
      have hrun : (execOp a.eval o).run C.P w = .ok (.value x) w' := by
        simp only [execOp, ho, resolve, hc, rf, Deferred.ofValue]
        simp only [Sem.run_bind, Sem.run_pure, Result.andThen_ok, invoke, hx]
      have hΓ' : Γ C S a w' I := by
        rcases hw with rfl | rfl
        · exact hΓ
        · exact ⟨hΓ.1.mono (Keeps.drew (fun _ => True) w I).stays, hΓ.2.quiet (fun _ => True) (fun _ _ => trivial) (Keeps.drew _ w I) hΓ.2.heap.inn⟩
      unfold Oper.wp
      rw [hrun]
      exact ⟨_, I, ⟨hΓ'.1.put o.dst (dstOk_spec hd) hrep, hΓ'.2.put _ _⟩, hK⟩
    rename_i hB
    obtain ⟨bs, lf, hp, h⟩ := h
    have hrun : (execOp a.eval o).run C.P w = .ok (.enter g (first ++ c.args.map a.eval ++ cap)) w := by
      simp only [execOp, ho]
      exact run_value hc rf hB
    have hr := reps_append (reps_append (reps_lits (w := w) (I := I) first.toList) (hΓ.evs c.args.toList)) (reps_lits cap.toList)
    have e : (first.toList ++ c.args.toList.map a.eval ++ cap.toList).toArray = first ++ c.args.map a.eval ++ cap := by
      apply Array.ext'
      simp
    have H := h.apply hΓ.2 hp hr
    rw [e] at H
    unfold Oper.wp
    rw [hrun]
    simp only [Oper.upon]
    refine H.mono fun en w' ⟨x, v, bs', rs', I', he, hv, hs, hW', hK⟩ => ?_
    subst he
    exact ⟨_, I', ⟨(hΓ.1.mono hs).put o.dst (dstOk_spec hd) hv, hW'.put _ _⟩, hK (List.nodup_append.1 hW'.heap.nodup).1⟩
  · exact h.elim

/-- An append: onto an owned row, or onto a stretch of a box; nil may become either. -/
def appendAny (P : Program) (S : St) (d : Option Nat) (t tx : TypeId) (s x : V) (K : St → Prop) : Prop :=
  match s, x with
  | .lit (.slice (some _) _ _), .lit (.int _ _) => appZK P S d t tx s x K
  | .lit (.slice (some _) _ _), x => appMK P S d t tx s x K ∨ appAK P S d t tx s x K
  | .lit (.slice none _ _), x => (tx = t ∧ appendK P S d t s x K) ∨ appAK P S d t tx s x K
  | .list a k es, .lit (.string b) => appSK P S d t tx (.list a k es) b K
  | s, x => tx = t ∧ appendK P S d t s x K

/-- One operation. -/
def aOp (P : Program) (S : St) (o : Oper) (K : St → Prop) : Prop :=
  match o.op with
  | .alloc t => allocK P S o.dst t K
  | .box _ x => boxK S o.dst (ev S.σ x) K
  | .store t p x => storeK P S o.dst t (ev S.σ p) (ev S.σ x) K
  | .buildSlice t n parts => buildSliceK P S o.dst t n (parts.toList.map fun p => (p.1, ev S.σ p.2)) K
  | .makeSlice t l c => makeSliceK P S o.dst t (ev S.σ l) (ev S.σ c) K
  | .makeMap t r => makeMapK P S o.dst t (r.map (ev S.σ)) K
  | .lookup t x k ok => lookK P S t (ev S.σ x) (ev S.σ k) ok fun v => K (S.put o.dst v)
  | .mapUpdate t x k v => updK P S o.dst t (ev S.σ x) (ev S.σ k) (ev S.σ v) K
  | .range t x => rangeK P S o.dst t (ev S.σ x) K
  | .next x false => nextK S o.dst (ev S.σ x) K
  | .entry x => entryK S (ev S.σ x) fun v => K (S.put o.dst v)
  | .convert s t x => convB P S s t (ev S.σ x) fun v => K (S.put o.dst v)
  | .call c => match c.callee with
    | .builtin .append => match c.args.toList, c.argTypes.toList with
      | [s, x], [t, t'] => appendAny P S o.dst t t' (ev S.σ s) (ev S.σ x) K
      | _, _ => False
    | .builtin .copy => match c.args.toList, c.argTypes.toList with
      | [s, x], [t, t'] => copyK P S o.dst t t' (ev S.σ s) (ev S.σ x) K
      | _, _ => False
    | .value f => callE P S o.dst (ev S.σ f) (c.args.toList.map (ev S.σ)) K
    | _ => detG P S o fun v => K (S.put o.dst v)
  | _ => detG P S o fun v => K (S.put o.dst v)

theorem aOp_spec {C S} {o : Oper} {K : St → Prop} (hd : dstOk C.N o = true) (h : aOp C.P S o K) : Step C S o K := by
  have det : (detG C.P S o fun v => K (S.put o.dst v)) → Step C S o K := fun h => by
    obtain ⟨v, hv, hk⟩ := detG_spec h
    exact Step.det hd hv hk
  unfold aOp at h
  split at h
  · rename_i ho; exact step_alloc ho hd h
  · rename_i ho; exact step_box ho hd h
  · rename_i ho; exact step_store ho hd h
  · rename_i ho; exact step_buildSlice ho hd h
  · rename_i ho; exact step_makeSlice ho hd h
  · rename_i ho; exact step_makeMap ho hd h
  · rename_i ho; exact step_lookup ho hd h
  · rename_i ho; exact step_mapUpdate ho hd h
  · rename_i ho; exact step_range ho hd h
  · rename_i ho; exact step_next ho hd h
  · rename_i ho; exact step_entry ho hd h
  · rename_i ho; exact step_convert ho hd h
  · rename_i ho
    split at h
    · rename_i hc
      split at h
      · rename_i ha ht
        unfold appendAny at h
        split at h
        · exact step_appZ ho hc ha ht hd (by simp_all only)
        · rcases h with h | h
          · exact step_appM ho hc ha ht hd (by simp_all only)
          · exact step_appA ho hc ha ht hd (by simp_all only)
        · rcases h with ⟨rfl, h⟩ | h
          · exact step_append ho hc ha ht hd (by simp_all only)
          · exact step_appA ho hc ha ht hd (by simp_all only)
        · rename_i hx; exact step_appS ho hc ha ht hd hx (by simp_all only)
        · obtain ⟨rfl, h⟩ := h
          exact step_append ho hc ha ht hd h
      · exact h.elim
    · rename_i hc
      split at h
      · rename_i ha ht; exact step_copy ho hc ha ht hd h
      · exact h.elim
    · rename_i hc; exact step_call ho hc hd h
    · exact det h
  · exact det h

/-- A region (or what is left of it), in the order of the text. -/
def aOps (P : Program) (ops : Array Oper) (K : St → Prop) : List Oper → St → Prop
  | [], S => K S
  | o :: rest, S => match wantA ops S.σ o with
    | some true => aOp P S o fun S' => aOps P ops K rest S'
    | some false => aOps P ops K rest (S.put o.dst skipV)
    | none => False

theorem aOps_spec {C : Ctx} {ops : Array Oper} {K : St → Prop} {Q : Exit → Act → World → Prop} (hQ : ∀ S a w I, Γ C S a w I → K S → Q .normal a w) : ∀ (l : List Oper) (S : St) (a : Act) (w : World) (I : Cells), (∀ o ∈ l, dstOk C.N o = true) → Γ C S a w I → aOps C.P ops K l S → wpList C.P ops Q l a w
  | [], S, a, w, I, _, hΓ, h => hQ S a w I hΓ h
  | o :: rest, S, a, w, I, hdl, hΓ, h => by
    simp only [aOps] at h
    have hd := hdl o List.mem_cons_self
    have hdr := fun o' ho' => hdl o' (List.mem_cons_of_mem _ ho')
    unfold wpList
    split at h
    · rename_i hw
      rw [if_pos (wantA_spec hΓ hw)]
      left
      refine Oper.wp_mono (fun a' w' ⟨S', I', hΓ', hk⟩ => ?_) (aOp_spec hd h a w I hΓ Q)
      exact aOps_spec hQ rest S' a' w' I' hdr hΓ' hk
    · rename_i hw
      rw [if_neg (by rw [wantA_spec hΓ hw]; simp)]
      exact aOps_spec hQ rest _ _ w I hdr ⟨hΓ.1.put o.dst (dstOk_spec hd) (by simp only [skipV, V.rep]), hΓ.2.put _ _⟩ h
    · exact h.elim

end Go.VL

/- The V logic, part X (between 13 and 14; under way): an operation that only reads comes to one value. -/
namespace Go.VL
open Go.RowKit

/-- A predicate of what follows that comes to one value. -/
def Lin {α : Type} (X : (α → Prop) → Prop) : Prop := ∀ K, X K → ∃ a, K a ∧ ∀ K' : α → Prop, K' a → X K'

theorem Lin.pure {α : Type} (a : α) : Lin fun K => K a := fun _ h => ⟨a, h, fun _ h => h⟩
theorem Lin.no {α : Type} : Lin (α := α) fun _ => False := fun _ h => h.elim
theorem Lin.comp {α β : Type} {X : (α → Prop) → Prop} {Y : α → (β → Prop) → Prop} (hX : Lin X) (hY : ∀ a, Lin (Y a)) : Lin fun K => X fun a => Y a K := fun K h => by
  obtain ⟨a, ha, ra⟩ := hX _ h
  obtain ⟨b, hb, rb⟩ := hY a K ha
  exact ⟨b, hb, fun K' hk => ra _ (rb K' hk)⟩
theorem Lin.and {α : Type} {X : (α → Prop) → Prop} (A : Prop) (h : Lin X) : Lin fun K => A ∧ X K := fun K hh => by
  obtain ⟨a, ha, ra⟩ := h K hh.2
  exact ⟨a, ha, fun K' hk => ⟨hh.1, ra K' hk⟩⟩

theorem Lin.onL {v : V} {n : Nat} {α : Type} {Y : List (List V) → (α → Prop) → Prop} (hY : ∀ a, Lin (Y a)) : Lin fun K => onL v n fun es => Y es K := by
  unfold VL.onL
  split
  · exact Lin.and _ (hY _)
  · exact hY _
  · exact Lin.no
theorem Lin.onS {v : V} {n : Nat} {α : Type} {Y : List (List V) → (α → Prop) → Prop} {Z : Nat → Nat → Nat → Nat → (α → Prop) → Prop} (hY : ∀ a, Lin (Y a)) (hZ : ∀ b o l c, Lin (Z b o l c)) : Lin fun K => onS v n (fun es => Y es K) fun b o l c => Z b o l c K := by
  unfold VL.onS
  split
  · exact hZ _ _ _ _
  · exact Lin.onL hY
theorem Lin.bnd {x : Option V} {d : Nat} {α : Type} {Y : Nat → (α → Prop) → Prop} (hY : ∀ a, Lin (Y a)) : Lin fun K => bnd x d fun n => Y n K := by
  unfold VL.bnd
  split
  · exact hY _
  · exact Lin.and _ (hY _)
  · exact Lin.no
theorem Lin.shiftP {v : V} {off : Nat} : Lin (shiftP v off) := by
  unfold VL.shiftP
  split
  · exact Lin.pure _
  · exact Lin.pure _
  · exact Lin.no
theorem Lin.atP {S : St} {v : V} : Lin (atP S v) := by
  unfold VL.atP
  split
  · exact Lin.pure _
  · split
    · exact Lin.pure _
    · exact Lin.no
  · exact Lin.no
theorem Lin.nilK {v : V} : Lin (nilK v) := by
  unfold VL.nilK
  split
  · exact Lin.pure _
  · exact Lin.pure _
  · exact Lin.pure _
  · exact Lin.no

section
variable {P : Program}
theorem Lin.loadK {t : TypeId} {cs : List V} : Lin (loadK P t cs) := by
  unfold VL.loadK
  repeat' split
  all_goals first | exact Lin.pure _ | exact Lin.and _ (Lin.pure _) | exact Lin.no
theorem Lin.partK {t : TypeId} {cs : List V} {off : Nat} : Lin (partK P t cs off) := by
  unfold VL.partK
  repeat' split
  all_goals first | exact Lin.pure _ | exact Lin.and _ (Lin.pure _) | exact Lin.no
theorem Lin.fieldAddrK {s : TypeId} {f : Nat} {v : V} : Lin (fieldAddrK P s f v) := by
  unfold VL.fieldAddrK
  repeat' split
  all_goals first | exact Lin.shiftP | exact Lin.no
theorem Lin.fieldK {s : TypeId} {f : Nat} {v : V} : Lin (fieldK P s f v) := by
  unfold VL.fieldK
  repeat' split
  all_goals first | exact Lin.partK | exact Lin.no
theorem Lin.idxAddrK {t : TypeId} {v i : V} : Lin (idxAddrK P t v i) := by
  unfold VL.idxAddrK
  repeat' split
  all_goals first | exact Lin.no | exact Lin.onS (fun _ => Lin.and _ (Lin.and _ (Lin.pure _))) (fun _ _ _ _ => Lin.and _ (Lin.and _ (Lin.pure _))) | exact Lin.and _ (Lin.and _ Lin.shiftP)
theorem Lin.idxK {t : TypeId} {v i : V} : Lin (idxK P t v i) := by
  unfold VL.idxK
  repeat' split
  all_goals first | exact Lin.no | exact Lin.and _ (Lin.and _ (Lin.pure _)) | exact Lin.and _ (Lin.and _ Lin.partK)
theorem Lin.binK {op : BinOp} {t : TypeId} {x y : V} : Lin (binK P op t x y) := by
  unfold VL.binK
  split
  · rintro K ⟨e, v, h1, h2, h3⟩; exact ⟨_, h3, fun K' hk => ⟨e, v, h1, h2, hk⟩⟩
  · rintro K ⟨h0, e, v, h1, h2, h3⟩; exact ⟨_, h3, fun K' hk => ⟨h0, e, v, h1, h2, hk⟩⟩
  · rintro K ⟨v, h1, h2⟩; exact ⟨_, h2, fun K' hk => ⟨v, h1, hk⟩⟩
  · rintro K ⟨l, m, b, h1, h2, h3, h4⟩; exact ⟨_, h4, fun K' hk => ⟨l, m, b, h1, h2, h3, hk⟩⟩
  · exact Lin.no
theorem Lin.convK {s d : TypeId} {v : V} : Lin (convK P s d v) := by
  unfold VL.convK
  repeat' split
  all_goals first | exact Lin.pure _ | exact Lin.no
theorem Lin.lenK {t : TypeId} {v : V} : Lin (lenK P t v) := by
  unfold VL.lenK
  repeat' split
  all_goals first | exact Lin.pure _ | exact Lin.no | exact Lin.onS (fun _ => Lin.pure _) (fun _ _ _ _ => Lin.pure _)
theorem Lin.capK {t : TypeId} {v : V} : Lin (capK P t v) := by
  unfold VL.capK
  repeat' split
  all_goals first | exact Lin.pure _ | exact Lin.no
theorem Lin.sliceK {t : TypeId} {v : V} {lo hi mx : Option V} : Lin (sliceK P t v lo hi mx) := by
  unfold VL.sliceK
  repeat' split
  all_goals first
    | exact Lin.no
    | exact Lin.and _ (Lin.bnd fun _ => Lin.bnd fun _ => Lin.and _ (Lin.and _ (Lin.pure _)))
    | exact Lin.onS (fun _ => Lin.bnd fun _ => Lin.bnd fun _ => Lin.and _ (Lin.and _ (Lin.and _ (Lin.pure _)))) (fun _ _ _ _ => Lin.bnd fun _ => Lin.bnd fun _ => Lin.bnd fun _ => Lin.and _ (Lin.and _ (Lin.and _ (Lin.and _ (Lin.pure _)))))
theorem Lin.buildK {t : TypeId} {ps : List (Nat × V)} : Lin (buildK P t ps) := by
  unfold VL.buildK
  split
  · rintro K ⟨cs, h1, h2⟩; exact ⟨_, h2, fun K' hk => ⟨cs, h1, hk⟩⟩
  · exact Lin.no
theorem Lin.callK {f : V} {as : List V} : Lin (callK P f as) := by
  unfold VL.callK
  split
  · rintro K ⟨h0, v, h1, h2⟩; exact ⟨_, h2, fun K' hk => ⟨h0, v, h1, hk⟩⟩
  · exact Lin.no
theorem Lin.buildSliceD {t : TypeId} {n : Nat} {ps : List (Nat × V)} : Lin (buildSliceD P t n ps) := by
  unfold VL.buildSliceD
  repeat' split
  all_goals first
    | exact Lin.no
    | (rintro K ⟨h1, h2, h3, es, h4, h5, h6⟩; exact ⟨_, h6, fun K' hk => ⟨h1, h2, h3, es, h4, h5, hk⟩⟩)
theorem Lin.detF {S : St} {o : Oper} : Lin (detF P S o) := by
  unfold VL.detF
  split
  · exact Lin.pure _
  · exact Lin.pure _
  · split
    · exact Lin.pure _
    · exact Lin.no
  · exact Lin.comp Lin.atP fun _ => Lin.loadK
  · exact Lin.fieldAddrK
  · exact Lin.fieldK
  · exact Lin.idxAddrK
  · exact Lin.idxK
  · exact Lin.binK
  · split
    · rintro K ⟨v, h1, h2⟩; exact ⟨_, h2, fun K' hk => ⟨v, h1, hk⟩⟩
    · exact Lin.no
  · exact Lin.convK
  · repeat' split
    all_goals first | exact Lin.pure _ | exact Lin.no
  · exact Lin.sliceK
  · exact Lin.and _ Lin.buildK
  · rintro K ⟨l, m, h1, h2, h3⟩; exact ⟨_, h3, fun K' hk => ⟨l, m, h1, h2, hk⟩⟩
  · exact Lin.nilK
  · repeat' split
    all_goals first | exact Lin.lenK | exact Lin.capK | exact Lin.callK | exact Lin.pure _ | exact Lin.no
  · exact Lin.no
theorem Lin.detG {S : St} {o : Oper} : Lin (detG P S o) := by
  unfold VL.detG
  split
  · exact Lin.buildSliceD
  · exact Lin.detF

/-! ### One value, and no other -/
def Lin1 {α : Type} (X : (α → Prop) → Prop) : Prop := ∀ K, X K → ∃ a, ∀ K' : α → Prop, X K' ↔ K' a
theorem Lin1.pure {α : Type} (a : α) : Lin1 fun K => K a := fun _ _ => ⟨a, fun _ => Iff.rfl⟩
theorem Lin1.no {α : Type} : Lin1 (α := α) fun _ => False := fun _ h => h.elim
theorem Lin1.and {α : Type} {X : (α → Prop) → Prop} (A : Prop) (h : Lin1 X) : Lin1 fun K => A ∧ X K := fun K hh => by
  obtain ⟨a, ha⟩ := h K hh.2
  exact ⟨a, fun K' => ⟨fun h' => (ha K').1 h'.2, fun h' => ⟨hh.1, (ha K').2 h'⟩⟩⟩
theorem Lin1.onL {v : V} {n : Nat} {α : Type} {Y : List (List V) → (α → Prop) → Prop} (hY : ∀ a, Lin1 (Y a)) : Lin1 fun K => onL v n fun es => Y es K := by
  unfold VL.onL
  split
  · exact Lin1.and _ (hY _)
  · exact hY _
  · exact Lin1.no
theorem Lin1.onS {v : V} {n : Nat} {α : Type} {Y : List (List V) → (α → Prop) → Prop} {Z : Nat → Nat → Nat → Nat → (α → Prop) → Prop} (hY : ∀ a, Lin1 (Y a)) (hZ : ∀ b o l c, Lin1 (Z b o l c)) : Lin1 fun K => onS v n (fun es => Y es K) fun b o l c => Z b o l c K := by
  unfold VL.onS
  split
  · exact hZ _ _ _ _
  · exact Lin1.onL hY
theorem Lin1.bnd {x : Option V} {d : Nat} {α : Type} {Y : Nat → (α → Prop) → Prop} (hY : ∀ a, Lin1 (Y a)) : Lin1 fun K => bnd x d fun n => Y n K := by
  unfold VL.bnd
  split
  · exact hY _
  · exact Lin1.and _ (hY _)
  · exact Lin1.no
theorem Lin1.sliceK {P : Program} {t : TypeId} {v : V} {lo hi mx : Option V} : Lin1 (sliceK P t v lo hi mx) := by
  unfold VL.sliceK
  repeat' split
  all_goals first
    | exact Lin1.no
    | exact Lin1.and _ (Lin1.bnd fun _ => Lin1.bnd fun _ => Lin1.and _ (Lin1.and _ (Lin1.pure _)))
    | exact Lin1.onS (fun _ => Lin1.bnd fun _ => Lin1.bnd fun _ => Lin1.and _ (Lin1.and _ (Lin1.and _ (Lin1.pure _)))) (fun _ _ _ _ => Lin1.bnd fun _ => Lin1.bnd fun _ => Lin1.bnd fun _ => Lin1.and _ (Lin1.and _ (Lin1.and _ (Lin1.and _ (Lin1.pure _)))))

/-! ### Another state in which the same is read -/

def BoxExt (S S' : St) : Prop := ∀ b cs, getB S.boxes b = some cs → getB S'.boxes b = some cs

theorem atP_frame {S S' : St} {v : V} {K : List V → Prop} (hb : BoxExt S S') (h : atP S v K) : atP S' v K := by
  unfold VL.atP at h ⊢
  split at h
  · exact h
  · split at h
    · rename_i e; simp only [hb _ _ e]; exact h
    · exact h.elim
  · exact h.elim

theorem map_ev {σ σ' : Nat → V} {l : List Operand} (h : ∀ x ∈ l, ev σ' x = ev σ x) : l.map (ev σ') = l.map (ev σ) := List.map_congr_left h

theorem opt_ev {σ σ' : Nat → V} {x : Option Operand} (h : ∀ y, x = some y → ev σ' y = ev σ y) : x.map (ev σ') = x.map (ev σ) := by
  cases x with
  | none => rfl
  | some y => simp [h y rfl]

theorem detF_frame {S S' : St} {o : Oper} {k : V → Prop} (hev : ∀ x ∈ o.op.operands.toList, ev S'.σ x = ev S.σ x) (hb : BoxExt S S') (h : detF P S o k) : detF P S' o k := by
  obtain ⟨d, op, ty, pos, af, gd⟩ := o
  cases op <;> simp only [VL.detF] at h ⊢ <;> try exact h
  case move x => rw [hev x (by simp [Op.operands])]; exact h
  case assign x => rw [hev x (by simp [Op.operands])]; exact h
  case pick c x y => rw [hev c (by simp [Op.operands]), hev x (by simp [Op.operands]), hev y (by simp [Op.operands])]; exact h
  case load t x => rw [hev x (by simp [Op.operands])]; exact atP_frame hb h
  case nilCheck x => rw [hev x (by simp [Op.operands])]; exact h
  case binOp b t x y t' => rw [hev x (by simp [Op.operands]), hev y (by simp [Op.operands])]; exact h
  case unOp b t x => rw [hev x (by simp [Op.operands])]; exact h
  case convert s t x => rw [hev x (by simp [Op.operands])]; exact h
  case makeFunc fn a b => rw [map_ev (fun x hx => hev x (by simp [Op.operands]; exact .inl (by simpa using hx))), map_ev (fun x hx => hev x (by simp [Op.operands]; exact .inr (by simpa using hx)))]; exact h
  case slice t x lo hi mx => rw [hev x (by simp [Op.operands]), opt_ev (fun y hy => hev y (by simp [Op.operands, hy])), opt_ev (x := hi) (fun y hy => hev y (by simp [Op.operands, hy])), opt_ev (x := mx) (fun y hy => hev y (by simp [Op.operands, hy]))]; exact h
  case fieldAddr s x f => rw [hev x (by simp [Op.operands])]; exact h
  case field s x f => rw [hev x (by simp [Op.operands])]; exact h
  case indexAddr t x i => rw [hev x (by simp [Op.operands]), hev i (by simp [Op.operands])]; exact h
  case index t x i => rw [hev x (by simp [Op.operands]), hev i (by simp [Op.operands])]; exact h
  case extract x i => rw [hev x (by simp [Op.operands])]; exact h
  case build t ps =>
    have : (ps.toList.map fun p => (p.1, ev S'.σ p.2)) = ps.toList.map fun p => (p.1, ev S.σ p.2) := List.map_congr_left fun p hp => by
      rw [hev p.2 (by simp only [Op.operands]; simp; exact ⟨p.1, by simpa using hp⟩)]
    rw [this]; exact h
  case call c =>
    have hargs : ∀ x ∈ c.args.toList, ev S'.σ x = ev S.σ x := fun x hx => hev x (by simp only [Op.operands, Call.operands]; simp; exact .inr (by simpa using hx))
    split at h
    · split at h
      · rename_i ha _
        rw [hargs _ (by simp [ha])]; exact h
      · exact h
    · split at h
      · rename_i ha _
        rw [hargs _ (by simp [ha])]; exact h
      · exact h
    · rw [map_ev hargs]; exact h
    · rw [map_ev hargs]; exact h
    · rename_i hc
      rw [map_ev hargs, hev _ (by simp [Op.operands, Call.operands, hc])]; exact h
    · exact h

theorem detG_frame {S S' : St} {o : Oper} {k : V → Prop} (hev : ∀ x ∈ o.op.operands.toList, ev S'.σ x = ev S.σ x) (hb : BoxExt S S') (h : detG P S o k) : detG P S' o k := by
  obtain ⟨d, op, ty, pos, af, gd⟩ := o
  cases op
  case buildSlice t n ps =>
    simp only [VL.detG] at h ⊢
    have : (ps.toList.map fun p => (p.1, VL.ev S'.σ p.2)) = ps.toList.map fun p => (p.1, VL.ev S.σ p.2) := List.map_congr_left fun p hp => by
      rw [hev p.2 (by simp only [Op.operands]; simp; exact ⟨p.1, by simpa using hp⟩)]
    rw [this]; exact h
  all_goals exact detF_frame (P := P) (k := k) hev hb h
end

end Go.VL

/- The V logic, part Y (under way): a slot that an operation does not look at may be written before or after it. -/
namespace Go.VL
open Go.RowKit

section
variable {P : Program} {S : St} {d e : Option Nat} {v : V} {K : St → Prop} (hne : ∀ i, d = some i → e ≠ some i)
include hne
theorem swap_eq (S : St) (u : V) : K ((S.put d v).put e u) = K ((S.put e u).put d v) := by rw [put_comm S v u hne]
theorem allocK_put {t : TypeId} : allocK P (S.put d v) e t K = allocK P S e t fun S' => K (S'.put d v) := by
  unfold allocK
  split
  · have : ∀ b z, K (((S.put d v).addBox b z).put e (.lit (.pointer (some ⟨b, 0, none⟩)))) = K (((S.addBox b z).put e (.lit (.pointer (some ⟨b, 0, none⟩)))).put d v) := fun b z => swap_eq hne (S.addBox b z) _
    simp only [this]; rfl
  · rfl
theorem boxK_put {x : V} : boxK (S.put d v) e x K = boxK S e x fun S' => K (S'.put d v) := by
  unfold boxK
  split
  · have : ∀ b z, K (((S.put d v).addBox b z).put e (.lit (.pointer (some ⟨b, 0, none⟩)))) = K (((S.addBox b z).put e (.lit (.pointer (some ⟨b, 0, none⟩)))).put d v) := fun b z => swap_eq hne (S.addBox b z) _
    simp only [this]; rfl
  · rfl
theorem storeK_put {t : TypeId} {p x : V} : storeK P (S.put d v) e t p x K = storeK P S e t p x fun S' => K (S'.put d v) := by
  unfold storeK
  split
  · rename_i b o
    have hb : getB (S.put d v).boxes b = getB S.boxes b := rfl
    rw [hb]
    split
    · rename_i cs vs n _ _ _
      have : K (({ S.put d v with boxes := setB (S.put d v).boxes b (cs.take o ++ vs ++ cs.drop (o + n)) } : St).put e .any) = K ((({ S with boxes := setB S.boxes b (cs.take o ++ vs ++ cs.drop (o + n)) } : St).put e .any).put d v) :=
        swap_eq hne { S with boxes := setB S.boxes b (cs.take o ++ vs ++ cs.drop (o + n)) } .any
      rw [this]
    · rfl
  · rfl
omit hne in
theorem takeR_congr' {l : List Row} {y : Value} {L L' : Row → List Row → Prop} (h : ∀ r rs, L r rs = L' r rs) : takeR l y L = takeR l y L' := by
  have : L = L' := by funext r rs; exact h r rs
  rw [this]
theorem appendK_put {t : TypeId} {s x : V} : appendK P (S.put d v) e t s x K = appendK P S e t s x fun S' => K (S'.put d v) := by
  have key : ∀ fs k by_ ee, appD (S.put d v) e k by_ ee s fs K = appD S e k by_ ee s fs fun S' => K (S'.put d v) := fun fs k by_ ee => by
    unfold appD
    split
    · have : ∀ (r : Row) u, K (((S.put d v).addRow r).put e u) = K (((S.addRow r).put e u).put d v) := fun r u => swap_eq hne (S.addRow r) u
      simp only [this]
    · have : ∀ (rs : List Row) u, K (((S.put d v).setRows rs).put e u) = K (((S.setRows rs).put e u).put d v) := fun rs u => swap_eq hne (S.setRows rs) u
      simp only [this]; rfl
    · rfl
  unfold appendK
  simp only [key]
theorem copyK_put {t tx : TypeId} {s x : V} : copyK P (S.put d v) e t tx s x K = copyK P S e t tx s x fun S' => K (S'.put d v) := by
  have h1 : ∀ (bs : List (Nat × B)) u, K (((S.put d v).setBoxes bs).put e u) = K (((S.setBoxes bs).put e u).put d v) := fun bs u => swap_eq hne (S.setBoxes bs) u
  have h2 : ∀ u, K ((S.put d v).put e u) = K ((S.put e u).put d v) := swap_eq hne S
  unfold copyK
  simp only [h1, h2]
  rfl
end
end Go.VL

/- The V logic, part Z (under way): drawn regions in which hard operations stand beside soft ones. -/
namespace Go.VL
open Go.RowKit

theorem Ok.mono {P f args bs} {Q Q' : V → List (Nat × B) → List Row → Prop} (h : Ok P f args bs Q) (hq : ∀ v bs' rs', Q v bs' rs' → Q' v bs' rs') : Ok P f args bs Q' :=
  fun w I xs hr hH => (h w I xs hr hH).mono fun _ _ ⟨x, v, bs', rs', I', h1, h2, h3, h4, h5, h6⟩ => ⟨x, v, bs', rs', I', h1, h2, h3, h4, h5, hq _ _ _ h6⟩

/-- A call that hands rows back, no boxes. -/
def callR (P : Program) (S : St) (d : Option Nat) (f : V) (args : List V) (K : St → Prop) : Prop :=
  match f with
  | .lit (.func (.func g) first cap) => callB P g = true ∧ Ok P g (first.toList.map .lit ++ args ++ cap.toList.map .lit) [] fun v bs rs => bs = [] ∧ K ((S.setRows (rs ++ S.rows)).put d v)
  | _ => False

/-- A call that takes boxes and hands boxes and rows back. -/
def callX (P : Program) (S : St) (d : Option Nat) (f : V) (args : List V) (K : St → Prop) : Prop :=
  match f with
  | .lit (.func (.func g) first cap) => callB P g = true ∧ ∃ bs lf, S.boxes.Perm (bs ++ lf) ∧ Ok P g (first.toList.map .lit ++ args ++ cap.toList.map .lit) bs fun v bs' rs => ((bs' ++ lf).map (·.1)).Nodup → K (((S.setBoxes (bs' ++ lf)).setRows (rs ++ S.rows)).put d v)
  | _ => False

/-- Is an operation of a drawn region soft? (hc: its calls are hard; with boxes?) -/
def softD (hc : Option Bool) (o : Oper) : Bool :=
  match o.op with
  | .alloc _ | .box _ _ | .store _ _ _ | .makeSlice _ _ _ | .makeMap _ _ | .lookup _ _ _ _ | .mapUpdate _ _ _ _ | .range _ _ | .next _ _ | .entry _ => false
  | .call c => match c.callee with
    | .builtin .append | .builtin .copy => false
    | .value _ => hc.isNone
    | _ => true
  | .buildSlice _ _ _ => (match hc with | some true => false | _ => true)
  | _ => true

/-- What a hard operation of a drawn region does. -/
def gHard (P : Program) (hc : Option Bool) (S : St) (o : Oper) (K : St → Prop) : Prop :=
  match o.op with
  | .alloc t => allocK P S o.dst t K
  | .box _ x => boxK S o.dst (ev S.σ x) K
  | .store t p x => storeK P S o.dst t (ev S.σ p) (ev S.σ x) K
  | .call c => match c.callee with
    | .builtin .append => match c.args.toList, c.argTypes.toList with
      | [s, x], [t, t'] => t' = t ∧ appendK P S o.dst t (ev S.σ s) (ev S.σ x) K
      | _, _ => False
    | .builtin .copy => match c.args.toList, c.argTypes.toList with
      | [s, x], [t, t'] => copyK P S o.dst t t' (ev S.σ s) (ev S.σ x) K
      | _, _ => False
    | .value f => match hc with
      | some true => callX P S o.dst (ev S.σ f) (c.args.toList.map (ev S.σ)) K
      | _ => callR P S o.dst (ev S.σ f) (c.args.toList.map (ev S.σ)) K
    | _ => False
  | .buildSlice t n parts => buildSliceK P S o.dst t n (parts.toList.map fun p => (p.1, ev S.σ p.2)) K
  | _ => False

theorem buildSliceK_put {P : Program} {S : St} {d e : Option Nat} {v : V} {K : St → Prop} (hne : ∀ i, d = some i → e ≠ some i) {t : TypeId} {n : Nat} {ps : List (Nat × V)} : buildSliceK P (S.put d v) e t n ps K = buildSliceK P S e t n ps fun S' => K (S'.put d v) := by
  have : ∀ (r : Row) u, K (((S.put d v).addRow r).put e u) = K (((S.addRow r).put e u).put d v) := fun r u => swap_eq hne (S.addRow r) u
  unfold buildSliceK
  simp only [this]
theorem callR_put {P : Program} {S : St} {d e : Option Nat} {v : V} {K : St → Prop} (hne : ∀ i, d = some i → e ≠ some i) {f : V} {as : List V} : callR P (S.put d v) e f as K = callR P S e f as fun S' => K (S'.put d v) := by
  have : ∀ (rs : List Row) u, K (((S.put d v).setRows rs).put e u) = K (((S.setRows rs).put e u).put d v) := fun rs u => swap_eq hne (S.setRows rs) u
  unfold callR
  simp only [this]; rfl

theorem callX_put {P : Program} {S : St} {d e : Option Nat} {v : V} {K : St → Prop} (hne : ∀ i, d = some i → e ≠ some i) {f : V} {as : List V} : callX P (S.put d v) e f as K = callX P S e f as fun S' => K (S'.put d v) := by
  have : ∀ (bs : List (Nat × B)) (rs : List Row) u, K ((((S.put d v).setBoxes bs).setRows rs).put e u) = K ((((S.setBoxes bs).setRows rs).put e u).put d v) := fun bs rs u => swap_eq hne ((S.setBoxes bs).setRows rs) u
  unfold callX
  simp only [this]; rfl

theorem gHard_put {P : Program} {hc : Option Bool} {S : St} {d : Option Nat} {v : V} {K : St → Prop} {o : Oper} (hne : ∀ i, d = some i → o.dst ≠ some i) (hev : ∀ x ∈ o.op.operands.toList, ev (S.put d v).σ x = ev S.σ x) : gHard P hc (S.put d v) o K = gHard P hc S o fun S' => K (S'.put d v) := by
  obtain ⟨e, op, ty, pos, af, gd⟩ := o
  cases op <;> simp only [gHard] <;> try rfl
  case alloc t => exact allocK_put hne
  case box t x => rw [hev x (by simp [Op.operands])]; exact boxK_put hne
  case store t p x => rw [hev p (by simp [Op.operands]), hev x (by simp [Op.operands])]; exact storeK_put hne
  case buildSlice t n ps =>
    have : (ps.toList.map fun p => (p.1, VL.ev (S.put d v).σ p.2)) = ps.toList.map fun p => (p.1, VL.ev S.σ p.2) := List.map_congr_left fun p hp => by
      rw [hev p.2 (by simp only [Op.operands]; simp; exact ⟨p.1, by simpa using hp⟩)]
    rw [this]; exact buildSliceK_put hne
  case call c =>
    have hargs : ∀ x ∈ c.args.toList, ev (S.put d v).σ x = ev S.σ x := fun x hx => hev x (by simp only [Op.operands, Call.operands]; simp; exact .inr (by simpa using hx))
    split
    · split
      · rename_i ha _
        rw [hargs _ (by simp [ha]), hargs _ (by simp [ha]), appendK_put hne]
      · rfl
    · split
      · rename_i ha _
        rw [hargs _ (by simp [ha]), hargs _ (by simp [ha]), copyK_put hne]
      · rfl
    · rename_i hcl
      rw [map_ev hargs, hev _ (by simp [Op.operands, Call.operands, hcl])]
      split
      · exact callX_put hne
      · exact callR_put hne
    · rfl

/-- The boxes of S stay (what a growing operation keeps). -/
def growO (hc : Option Bool) (o : Oper) : Bool := match o.op with
  | .store _ _ _ => false
  | .call c => match c.callee with | .builtin .copy => false | .value _ => (match hc with | some true => false | _ => true) | _ => true
  | _ => true
structure Kept (hc : Option Bool) (S S' : St) (o : Oper) : Prop where
  slots : ∀ i, o.dst ≠ some i → S'.σ i = S.σ i
  boxes : growO hc o = true → BoxExt S S'

theorem put_slots (X : St) (d : Option Nat) (u : V) {i : Nat} (h : d ≠ some i) : (X.put d u).σ i = X.σ i := by simp [St.put, upd, h]

theorem getB_fresh {bs : List (Nat × B)} {b c : Nat} {zs cs : List V} (hb : b ∉ bs.map (·.1)) (h : getB bs c = some cs) : getB ((b, .c zs) :: bs) c = some cs := by
  have hc : c ∈ bs.map (·.1) := List.mem_map.2 ⟨(c, .c cs), getB_mem h, rfl⟩
  have hne : c ≠ b := fun e => hb (e ▸ hc)
  simp [getB, hne, h]

theorem takeR_and {l : List Row} {y : Value} {L L' : Row → List Row → Prop} (h : ∀ r rs, L r rs → L' r rs) : takeR l y L → takeR l y L' := by
  induction l generalizing L L' with
  | nil => exact id
  | cons r rs ih => exact fun hh => hh.imp (fun hh => ⟨hh.1, h _ _ hh.2⟩) (ih fun r' rs' => h r' (r :: rs'))

theorem gHard_kept {P : Program} {hc : Option Bool} {S : St} {K : St → Prop} {o : Oper} (h : gHard P hc S o K) : gHard P hc S o fun S' => K S' ∧ Kept hc S S' o := by
  obtain ⟨e, op, ty, pos, af, gd⟩ := o
  have fresh : ∀ (b : Nat) (zs : List V) u, b ∉ blks S.boxes S.rows → Kept hc S ((S.addBox b zs).put e u) ⟨e, op, ty, pos, af, gd⟩ := fun b zs u hb =>
    ⟨fun i hi => put_slots _ _ _ hi, fun _ c cs hc => getB_fresh (fun hm => hb (List.mem_append.2 (.inl hm))) hc⟩
  have rows : ∀ (X : St) u, X.boxes = S.boxes → X.σ = S.σ → Kept hc S (X.put e u) ⟨e, op, ty, pos, af, gd⟩ := fun X u hx hs =>
    ⟨fun i hi => by rw [put_slots _ _ _ hi, hs], fun _ c cs hc => by show getB X.boxes c = _; rw [hx]; exact hc⟩
  cases op <;> simp only [gHard] at h ⊢ <;> try exact h
  case alloc t =>
    unfold allocK at h ⊢
    split at h
    · exact ⟨h.1, fun b hb => ⟨h.2 b hb, fresh b _ _ hb⟩⟩
    · exact h.elim
  case box t x =>
    unfold boxK at h ⊢
    split at h
    · exact ⟨h.1, fun b hb => ⟨h.2 b hb, fresh b _ _ hb⟩⟩
    · exact h.elim
  case store t p x =>
    unfold storeK at h ⊢
    split at h
    · split at h
      · exact ⟨h.1, h.2.1, h.2.2.1, h.2.2.2, fun i hi => put_slots _ _ _ hi, fun hg => by simp [growO] at hg⟩
      · exact h.elim
    · exact h.elim
  case buildSlice t n ps =>
    unfold buildSliceK at h ⊢
    split at h
    · split at h
      · obtain ⟨h1, h2, h3, es, h4, h5, h6⟩ := h
        exact ⟨h1, h2, h3, es, h4, h5, fun y => ⟨h6 y, rows (S.addRow _) _ rfl rfl⟩⟩
      · exact h.elim
    · exact h.elim
  case call c =>
    split at h
    · split at h
      · refine ⟨h.1, ?_⟩
        have h := h.2
        unfold appendK at h ⊢
        split at h
        · split at h
          · refine ⟨h.1, ?_⟩
            have h := h.2
            have key : ∀ fs k by_ ee s, appD S e k by_ ee s fs K → appD S e k by_ ee s fs fun S' => K S' ∧ Kept hc S S' ⟨e, .call c, ty, pos, af, gd⟩ := fun fs k by_ ee s h => by
              unfold appD at h ⊢
              split at h
              · exact ⟨h.1, fun y => ⟨h.2 y, rows (S.addRow _) _ rfl rfl⟩⟩
              · exact ⟨h.1, takeR_and (fun r rs h => ⟨h.1, fun y' => ⟨h.2 y', rows (S.setRows _) _ rfl rfl⟩⟩) h.2⟩
              · exact h.elim
            unfold onL at h ⊢
            split at h
            · exact ⟨h.1, key _ _ _ _ _ h.2⟩
            · exact key _ _ _ _ _ h
            · exact h.elim
          · exact h.elim
        · exact h.elim
      · exact h.elim
    · rename_i hcl
      split at h
      · unfold copyK at h ⊢
        split at h
        · split at h
          · refine srcK_imp h fun m fs h => ?_
            split at h
            · exact ⟨h, fun i hi => put_slots _ _ _ hi, fun hg => by simp [growO, hcl] at hg⟩
            · split at h
              · exact ⟨h.1, h.2, fun i hi => put_slots _ _ _ hi, fun hg => by simp [growO, hcl] at hg⟩
              · exact h.elim
            · exact h.elim
          · exact h.elim
        · exact h.elim
      · exact h.elim
    · rename_i hcl
      split at h
      · unfold callX at h ⊢
        split at h
        · obtain ⟨h1, bs, lf, h2, h3⟩ := h
          exact ⟨h1, bs, lf, h2, Ok.mono h3 fun v bs' rs h hn => ⟨h hn, fun i hi => put_slots _ _ _ hi, fun hg => by simp [growO, hcl] at hg⟩⟩
        · exact h.elim
      · unfold callR at h ⊢
        split at h
        · exact ⟨h.1, Ok.mono h.2 fun v bs rs h => ⟨h.1, h.2, rows (S.setRows _) _ rfl rfl⟩⟩
        · exact h.elim
    · exact h.elim

end Go.VL

/- The V logic, part W (under way): the steps of a drawn region commute. -/
namespace Go.VL
open Go.RowKit

def gCore (P : Program) (hc : Option Bool) (o : Oper) (K : St → Prop) (S : St) : Prop :=
  if softD hc o = true then detG P S o fun v => K (S.put o.dst v) else gHard P hc S o K
/-- One step of a drawn region. -/
def gStep (P : Program) (hc : Option Bool) (ops : Array Oper) (o : Oper) (K : St → Prop) (S : St) : Prop :=
  match wantA ops S.σ o with
  | some true => gCore P hc o K S
  | some false => K (S.put o.dst skipV)
  | none => False

theorem ev_of_looks {ops : Array Oper} {S S' : St} {o o' : Oper} (hs : ∀ i, o'.dst ≠ some i → S'.σ i = S.σ i) (hl : ∀ i, o'.dst = some i → i ∉ o.looksAt ops) : ∀ x ∈ o.op.operands.toList, ev S'.σ x = ev S.σ x := by
  intro x hx
  cases x with
  | tmp t =>
    have ht : t ∈ Oper.tm o := by
      simp only [Oper.tm, List.mem_filterMap]
      exact ⟨.tmp t, hx, rfl⟩
    exact hs t fun e => hl t e (tm_looks ht)
  | _ => rfl

theorem wantA_of_looks {ops : Array Oper} {S S' : St} {o o' : Oper} (hs : ∀ i, o'.dst ≠ some i → S'.σ i = S.σ i) (hl : ∀ i, o'.dst = some i → i ∉ o.looksAt ops) : wantA ops S'.σ o = wantA ops S.σ o := by
  unfold wantA
  cases hg : o.guard with
  | none => rfl
  | some gw =>
    obtain ⟨g, want⟩ := gw
    simp only []
    cases hd : (ops[g]?).bind (·.dst) with
    | none => rfl
    | some t =>
      have hne : o'.dst ≠ some t := fun e => hl t e (by simp [Oper.looksAt, hg, hd])
      simp only []
      rw [hs t hne]

def memless (o : Oper) : Bool := match o.op with | .load _ _ => false | _ => true

theorem detG_memless {P : Program} {S S' : St} {o : Oper} {k : V → Prop} (hm : memless o = true) (hev : ∀ x ∈ o.op.operands.toList, ev S'.σ x = ev S.σ x) (h : detG P S o k) : detG P S' o k := by
  -- the slots of S', the boxes of S
  have h1 : detG P ⟨S'.σ, S.boxes, S'.rows⟩ o k := detG_frame (S := S) (S' := ⟨S'.σ, S.boxes, S'.rows⟩) hev (fun b cs h => h) h
  obtain ⟨d, op, ty, pos, af, gd⟩ := o
  cases op <;> first | exact h1 | (simp [memless] at hm)

theorem gHard_imp {P : Program} {hc : Option Bool} {S : St} {K K' : St → Prop} {o : Oper} (h : gHard P hc S o K) (hk : ∀ S', K S' → Kept hc S S' o → K' S') : gHard P hc S o K' := by
  replace h := gHard_kept h
  obtain ⟨e, op, ty, pos, af, gd⟩ := o
  cases op <;> simp only [gHard] at h ⊢ <;> try exact h
  case alloc t =>
    unfold allocK at h ⊢
    split at h
    · exact ⟨h.1, fun b hb => hk _ (h.2 b hb).1 (h.2 b hb).2⟩
    · exact h.elim
  case box t x =>
    unfold boxK at h ⊢
    split at h
    · exact ⟨h.1, fun b hb => hk _ (h.2 b hb).1 (h.2 b hb).2⟩
    · exact h.elim
  case store t p x =>
    unfold storeK at h ⊢
    split at h
    · split at h
      · exact ⟨h.1, h.2.1, h.2.2.1, hk _ h.2.2.2.1 h.2.2.2.2⟩
      · exact h.elim
    · exact h.elim
  case buildSlice t n ps =>
    unfold buildSliceK at h ⊢
    split at h
    · split at h
      · obtain ⟨h1, h2, h3, es, h4, h5, h6⟩ := h
        exact ⟨h1, h2, h3, es, h4, h5, fun y => hk _ (h6 y).1 (h6 y).2⟩
      · exact h.elim
    · exact h.elim
  case call c =>
    split at h
    · split at h
      · refine ⟨h.1, ?_⟩
        have h := h.2
        unfold appendK at h ⊢
        split at h
        · split at h
          · refine ⟨h.1, ?_⟩
            have h := h.2
            have key : ∀ fs k by_ ee s, (appD S e k by_ ee s fs fun S' => K S' ∧ Kept hc S S' ⟨e, .call c, ty, pos, af, gd⟩) → appD S e k by_ ee s fs K' := fun fs k by_ ee s h => by
              unfold appD at h ⊢
              split at h
              · exact ⟨h.1, fun y => hk _ (h.2 y).1 (h.2 y).2⟩
              · exact ⟨h.1, takeR_and (fun r rs h => ⟨h.1, fun y' => hk _ (h.2 y').1 (h.2 y').2⟩) h.2⟩
              · exact h.elim
            unfold onL at h ⊢
            split at h
            · exact ⟨h.1, key _ _ _ _ _ h.2⟩
            · exact key _ _ _ _ _ h
            · exact h.elim
          · exact h.elim
        · exact h.elim
      · exact h.elim
    · split at h
      · unfold copyK at h ⊢
        split at h
        · split at h
          · refine srcK_imp h fun m fs h => ?_
            split at h
            · exact hk _ h.1 h.2
            · split at h
              · exact ⟨h.1, hk _ h.2.1 h.2.2⟩
              · exact h.elim
            · exact h.elim
          · exact h.elim
        · exact h.elim
      · exact h.elim
    · split at h
      · unfold callX at h ⊢
        split at h
        · obtain ⟨h1, bs, lf, h2, h3⟩ := h
          exact ⟨h1, bs, lf, h2, Ok.mono h3 fun v bs' rs h hn => hk _ (h hn).1 (h hn).2⟩
        · exact h.elim
      · unfold callR at h ⊢
        split at h
        · exact ⟨h.1, Ok.mono h.2 fun v bs rs h => ⟨h.1, hk _ h.2.1 h.2.2⟩⟩
        · exact h.elim
    · exact h.elim


/-- Which pairs may change places. -/
def total (o : Oper) : Bool := o.guard.isNone && match o.op with | .move _ | .assign _ => true | _ => false
/-- A slice literal; a slice of a slice. -/
def isBS (o : Oper) : Bool := match o.op with | .buildSlice _ _ _ => true | _ => false
def isSl (o : Oper) : Bool := o.guard.isNone && match o.op with | .slice _ _ _ _ _ => true | _ => false
theorem isSl_lin {P : Program} {S : St} {o : Oper} (h : isSl o = true) : Lin1 (detG P S o) := by
  obtain ⟨e, op, ty, pos, af, gd⟩ := o
  cases op <;> simp only [isSl, Bool.and_false, Bool.false_eq_true] at h
  case slice t x lo hi mx => exact Lin1.sliceK
theorem isSl_memless {o : Oper} (h : isSl o = true) : memless o = true := by
  obtain ⟨e, op, ty, pos, af, gd⟩ := o
  cases op <;> simp only [isSl, Bool.and_false, Bool.false_eq_true] at h
  case slice t x lo hi mx => rfl
def mixB (hc : Option Bool) (oi oj : Oper) : Bool :=
  ((softD hc oi && (softD hc oj || growO hc oj || memless oi)) || (!softD hc oi && softD hc oj && total oj)) || (!softD hc oi && softD hc oj && isBS oi && isSl oj)

theorem gCore_imp {P : Program} {hc : Option Bool} {S : St} {K K' : St → Prop} {o : Oper} (h : gCore P hc o K S) (hk : ∀ S', K S' → (∀ i, o.dst ≠ some i → S'.σ i = S.σ i) → (softD hc o = true ∨ growO hc o = true → BoxExt S S') → K' S') : gCore P hc o K' S := by
  unfold gCore at h ⊢
  split at h
  · rename_i hs
    rw [if_pos hs]
    obtain ⟨v, hv, hr⟩ := Lin.detG _ h
    exact hr _ (hk _ hv (fun i hi => put_slots _ _ _ hi) fun _ b cs hb => hb)
  · rename_i hs
    rw [if_neg hs]
    exact gHard_imp h fun S' h1 h2 => hk S' h1 h2.slots fun hg => h2.boxes (hg.resolve_left hs)

theorem gCore_put {P : Program} {hc : Option Bool} {ops : Array Oper} {S : St} {d : Option Nat} {v : V} {K : St → Prop} {o : Oper} (hne : ∀ i, d = some i → o.dst ≠ some i) (hl : ∀ i, d = some i → i ∉ o.looksAt ops) :
    gCore P hc o K (S.put d v) ↔ gCore P hc o (fun S' => K (S'.put d v)) S := by
  have hev : ∀ x ∈ o.op.operands.toList, ev (S.put d v).σ x = ev S.σ x := ev_of_looks (o' := ⟨d, o.op, o.type, o.pos, o.after, o.guard⟩) (fun i hi => put_slots _ _ _ hi) hl
  unfold gCore
  split
  · have sw : ∀ u, K ((S.put d v).put o.dst u) ↔ K ((S.put o.dst u).put d v) := fun u => by rw [put_comm S v u hne]
    constructor
    · intro h
      obtain ⟨u, hu, hr⟩ := Lin.detG _ (detG_frame (S := S.put d v) (S' := S) (fun x hx => (hev x hx).symm) (fun b cs h => h) h)
      exact hr _ ((sw u).1 hu)
    · intro h
      obtain ⟨u, hu, hr⟩ := Lin.detG _ (detG_frame (S := S) (S' := S.put d v) hev (fun b cs h => h) h)
      exact hr _ ((sw u).2 hu)
  · rw [gHard_put hne hev]

theorem detG_mono' {P : Program} {S : St} {o : Oper} {k k' : V → Prop} (h : detG P S o k) (hk : ∀ v, k v → k' v) : detG P S o k' := by
  obtain ⟨v, hv, hr⟩ := Lin.detG _ h
  exact hr _ (hk v hv)

theorem gStep_imp {P : Program} {hc : Option Bool} {ops : Array Oper} {S : St} {K K' : St → Prop} {o : Oper} (h : gStep P hc ops o K S) (hk : ∀ S', K S' → (∀ i, o.dst ≠ some i → S'.σ i = S.σ i) → (softD hc o = true ∨ growO hc o = true → BoxExt S S') → K' S') : gStep P hc ops o K' S := by
  unfold gStep at h ⊢
  split at h
  · exact gCore_imp h hk
  · exact hk _ h (fun i hi => put_slots _ _ _ hi) fun _ b cs hb => hb
  · exact h

theorem gStep_put {P : Program} {hc : Option Bool} {ops : Array Oper} {S : St} {d : Option Nat} {v : V} {K : St → Prop} {o : Oper} (hne : ∀ i, d = some i → o.dst ≠ some i) (hl : ∀ i, d = some i → i ∉ o.looksAt ops) :
    gStep P hc ops o K (S.put d v) ↔ gStep P hc ops o (fun S' => K (S'.put d v)) S := by
  unfold gStep
  rw [wantA_put hl]
  split
  · exact gCore_put hne hl
  · rw [put_comm S v skipV hne]
  · exact Iff.rfl

theorem gStep_comm {P : Program} {hc : Option Bool} {ops : Array Oper} {oi oj : Oper} {K : St → Prop} {S : St} (hap : oi.apart ops oj = true) (hmx : mixB hc oi oj = true) (h : gStep P hc ops oi (gStep P hc ops oj K) S) :
    gStep P hc ops oj (gStep P hc ops oi K) S := by
  obtain ⟨h1, h2, h3⟩ := Oper.apart_spec hap
  have wi : ∀ (S' : St), (∀ i, oj.dst ≠ some i → S'.σ i = S.σ i) → wantA ops S'.σ oi = wantA ops S.σ oi := fun S' hs => wantA_of_looks (o' := oj) hs h3
  have evi : ∀ (S' : St), (∀ i, oj.dst ≠ some i → S'.σ i = S.σ i) → ∀ x ∈ oi.op.operands.toList, ev S'.σ x = ev S.σ x := fun S' hs => ev_of_looks (o' := oj) hs h3
  have h2' : ∀ i, oj.dst = some i → oi.dst ≠ some i := fun i hi e => h2 i e hi
  unfold mixB at hmx
  simp only [Bool.or_eq_true, Bool.and_eq_true, Bool.not_eq_true'] at hmx
  rcases hmx with (⟨hs, hmx⟩ | ⟨⟨hs, hsj⟩, ht⟩) | ⟨⟨⟨hs, hsj⟩, hbs⟩, hsl⟩
  · -- the first is soft: its value is known beforehand
    have h' := h
    unfold gStep at h'
    split at h'
    · rename_i hw
      unfold gCore at h'
      rw [if_pos hs] at h'
      obtain ⟨v, hv, hr⟩ := Lin.detG _ h'
      have hv' : gStep P hc ops oj K (S.put oi.dst v) := hv
      rw [gStep_put h2 h1] at hv'
      refine gStep_imp hv' fun S' hk hsl hbx => ?_
      unfold gStep
      rw [wi S' hsl, hw]
      simp only []
      unfold gCore
      rw [if_pos hs]
      have hd := hr (fun u => u = v) rfl
      have hd' : detG P S' oi fun u => u = v := by
        rcases hmx with (hm | hm) | hm
        · exact detG_frame (evi S' hsl) (hbx (.inl hm)) hd
        · exact detG_frame (evi S' hsl) (hbx (.inr hm)) hd
        · exact detG_memless hm (evi S' hsl) hd
      exact detG_mono' hd' fun u hu => hu ▸ hk
    · rename_i hw
      have hv' : gStep P hc ops oj K (S.put oi.dst skipV) := h'
      rw [gStep_put h2 h1] at hv'
      refine gStep_imp hv' fun S' hk hsl _ => ?_
      unfold gStep
      rw [wi S' hsl, hw]
      exact hk
    · exact h'.elim
  · -- the second is a move
    have wj : ∀ (S' : St), (∀ i, oi.dst ≠ some i → S'.σ i = S.σ i) → wantA ops S'.σ oj = wantA ops S.σ oj := fun S' hs => wantA_of_looks (o' := oi) hs h1
    have evj : ∀ (S' : St), (∀ i, oi.dst ≠ some i → S'.σ i = S.σ i) → ∀ x ∈ oj.op.operands.toList, ev S'.σ x = ev S.σ x := fun S' hs => ev_of_looks (o' := oi) hs h1
    have hg0 : oj.guard = none := by
      unfold total at ht
      simp only [Bool.and_eq_true, Option.isNone_iff_eq_none] at ht
      exact ht.1
    have hw : ∀ S' : St, wantA ops S'.σ oj = some true := fun S' => by unfold wantA; rw [hg0]
    obtain ⟨x, hx, hg⟩ : ∃ x : Operand, x ∈ oj.op.operands.toList ∧ (∀ (S' : St) (K' : St → Prop), gStep P hc ops oj K' S' ↔ K' (S'.put oj.dst (ev S'.σ x))) := by
      obtain ⟨e, op, ty, pos, af, gd⟩ := oj
      cases op <;> simp only [total, Bool.and_false] at ht <;> try (cases ht)
      case move x => exact ⟨x, by simp [Op.operands], fun S' K' => by unfold gStep; rw [hw]; simp only []; unfold gCore; rw [if_pos hsj]; exact Iff.rfl⟩
      case assign x => exact ⟨x, by simp [Op.operands], fun S' K' => by unfold gStep; rw [hw]; simp only []; unfold gCore; rw [if_pos hsj]; exact Iff.rfl⟩
    rw [hg S, gStep_put h2' h3]
    refine gStep_imp h fun S' hk hsl _ => ?_
    rw [← evj S' hsl x hx]
    exact (hg S' K).1 hk
  · -- a slice literal, then a slice of a slice
    have evj : ∀ (S' : St), (∀ i, oi.dst ≠ some i → S'.σ i = S.σ i) → ∀ x ∈ oj.op.operands.toList, ev S'.σ x = ev S.σ x := fun S' hs => ev_of_looks (o' := oi) hs h1
    have hg0 : oj.guard = none := by
      unfold isSl at hsl
      simp only [Bool.and_eq_true, Option.isNone_iff_eq_none] at hsl
      exact hsl.1
    have hw : ∀ S' : St, wantA ops S'.σ oj = some true := fun S' => by unfold wantA; rw [hg0]
    have gj : ∀ (S' : St) (K' : St → Prop), gStep P hc ops oj K' S' ↔ detG P S' oj fun v => K' (S'.put oj.dst v) := fun S' K' => by
      unfold gStep; rw [hw]; simp only []; unfold gCore; rw [if_pos hsj]
    have frame : ∀ (S' : St) (k : V → Prop), (∀ i, oi.dst ≠ some i → S'.σ i = S.σ i) → detG P S' oj k → detG P S oj k := fun S' k hsl' hd =>
      detG_memless (isSl_memless hsl) (fun x hx => (evj S' hsl' x hx).symm) hd
    rw [gj S]
    have h' : (match wantA ops S.σ oi with | some true => gCore P hc oi (gStep P hc ops oj K) S | some false => gStep P hc ops oj K (S.put oi.dst skipV) | none => False) := h
    have back : ∀ v, gStep P hc ops oi (fun S' => K (S'.put oj.dst v)) S → gStep P hc ops oi K (S.put oj.dst v) := fun v hv => (gStep_put h2' h3).2 hv
    split at h'
    · rename_i hwi
      have gi : ∀ K' : St → Prop, gStep P hc ops oi K' S ↔ gHard P hc S oi K' := fun K' => by
        unfold gStep; rw [hwi]; simp only []; unfold gCore; rw [if_neg (by rw [hs]; decide)]
      have hh : gHard P hc S oi (gStep P hc ops oj K) := (gi _).1 (by unfold gStep; rw [hwi]; exact h')
      obtain ⟨e, op, ty, pos, af, gd⟩ := oi
      cases op <;> simp only [isBS, Bool.false_eq_true] at hbs
      case buildSlice t n ps =>
        simp only [gHard] at hh gi
        unfold buildSliceK at hh
        split at hh
        · rename_i u1 hu1
          split at hh
          · rename_i u2 hu2 hu3
            obtain ⟨q1, q2, q3, es, q4, q5, q6⟩ := hh
            have q6' := fun y => frame _ _ (fun i hi => put_slots (S.addRow ⟨y, _, _⟩) _ _ hi) ((gj _ _).1 (q6 y))
            obtain ⟨v0, hv0⟩ := isSl_lin hsl _ (q6' undef)
            refine (hv0 _).2 (back v0 ((gi _).2 ?_))
            unfold buildSliceK
            simp only [hu1, hu2, hu3]
            exact ⟨q1, q2, q3, es, q4, q5, fun y => (hv0 _).1 (q6' y)⟩
          · exact hh.elim
        · exact hh.elim
    · rename_i hwi
      have hd := frame _ _ (fun i hi => put_slots S _ _ hi) ((gj _ _).1 h')
      refine detG_mono' hd fun v hv => back v ?_
      unfold gStep; rw [hwi]; exact hv
    · exact h'.elim

end Go.VL

/- The V logic, part U: a drawn region in which every pair of operations that may change places commutes: the order of the text serves all orders. -/
namespace Go.VL
open Go.RowKit

/-- Those that come before an operation, whatever is drawn. -/
def ancs (md : Region.Mode) (ops : Array Oper) : Nat → List (List Nat)
  | 0 => []
  | n + 1 => ancs md ops n ++ [match ops[n]? with
    | some o => (o.after.toList.filter (Region.binds md)).flatMap fun (e : Edge) => e.on :: (ancs md ops n).getD e.on []
    | none => []]

def pairB (hc : Option Bool) (ops : Array Oper) (i j : Nat) : Bool :=
  match ops[i]?, ops[j]? with
  | some oi, some oj => oi.apart ops oj && mixB hc oi oj
  | _, _ => true

def freeB (hc : Option Bool) (ops : Array Oper) (A : List (List Nat)) : Nat → Bool
  | 0 => true
  | n + 1 => freeB hc ops A n && (List.range n).all fun j => (A.getD n []).contains j || pairB hc ops j n

def lexB (md : Region.Mode) (ops : Array Oper) : Bool :=
  (List.range ops.size).all fun i => match ops[i]? with | some o => o.after.toList.all fun e => !Region.binds md e || decide (e.on < i) | none => true

/-- The check. -/
def mixedB (hc : Option Bool) (ops : Array Oper) : Bool :=
  lexB .any ops && freeB hc ops (ancs .any ops ops.size) ops.size

section
variable {P : Program} {hc : Option Bool} {ops : Array Oper} {md : Region.Mode}

def waitsFor (md : Region.Mode) (ops : Array Oper) (listed : Array Bool) (i : Nat) : Prop := ∀ o, ops[i]? = some o → ∀ e ∈ o.after, Region.binds md e = true → listed.getD e.on false = true
def DownC (md : Region.Mode) (ops : Array Oper) (listed : Array Bool) : Prop := ∀ i, listed.getD i false = true → waitsFor md ops listed i

theorem ancs_length : ∀ n, (ancs md ops n).length = n
  | 0 => rfl
  | n + 1 => by simp [ancs, ancs_length n]

theorem ancs_spec {listed : Array Bool} (hd : DownC md ops listed) : ∀ n i, waitsFor md ops listed i → ∀ j ∈ (ancs md ops n).getD i [], listed.getD j false = true := by
  intro n
  induction n with
  | zero => intro i _ j hj; simp [ancs] at hj
  | succ n ih =>
    intro i hi j hj
    by_cases hin : i < n
    · refine ih i hi j ?_
      simpa [ancs, List.getElem?_append_left (show i < (ancs md ops n).length by rw [ancs_length]; exact hin)] using hj
    · by_cases he : i = n
      · subst he
        have hj' : j ∈ (match ops[i]? with
          | some o => (o.after.toList.filter (Region.binds md)).flatMap fun (e : Edge) => e.on :: (ancs md ops i).getD e.on []
          | none => []) := by
          simpa [ancs, List.getElem?_append_right (show (ancs md ops i).length ≤ i by rw [ancs_length]; exact Nat.le_refl _), ancs_length] using hj
        split at hj'
        · rename_i o ho
          simp only [List.mem_flatMap, List.mem_filter, List.mem_cons] at hj'
          obtain ⟨e, ⟨he, hb⟩, hj'⟩ := hj'
          have hl := hi o ho e (by simpa using he) hb
          rcases hj' with rfl | hj'
          · exact hl
          · exact ih e.on (hd e.on hl) j hj'
        · cases hj'
      · have : (ancs md ops (n + 1)).getD i [] = [] := by
          have hlen := ancs_length (md := md) (ops := ops) (n + 1)
          simp [List.getD, List.getElem?_eq_none (show (ancs md ops (n + 1)).length ≤ i by rw [hlen]; omega)]
        rw [this] at hj
        cases hj

theorem freeB_spec {A : List (List Nat)} : ∀ {n : Nat}, freeB hc ops A n = true → ∀ i j, j < i → i < n → j ∈ A.getD i [] ∨ pairB hc ops j i = true
  | 0, _, i, j, _, h => absurd h (Nat.not_lt_zero _)
  | n + 1, h, i, j, hji, hin => by
    simp only [freeB, Bool.and_eq_true, List.all_eq_true, List.mem_range, Bool.or_eq_true, List.contains_iff_mem] at h
    by_cases e : i = n
    · subst e; exact h.2 j hji
    · exact freeB_spec h.1 i j hji (by omega)

/-- A step by its number. -/
def gStepI (P : Program) (hc : Option Bool) (ops : Array Oper) (i : Nat) (K : St → Prop) (S : St) : Prop :=
  match ops[i]? with
  | some o => gStep P hc ops o K S
  | none => K S

def gSeqI (P : Program) (hc : Option Bool) (ops : Array Oper) (K : St → Prop) : List Nat → St → Prop
  | [], S => K S
  | i :: r, S => gStepI P hc ops i (gSeqI P hc ops K r) S

theorem gStepI_mono {i : Nat} {K K' : St → Prop} {S : St} (hk : ∀ S, K S → K' S) (h : gStepI P hc ops i K S) : gStepI P hc ops i K' S := by
  unfold gStepI at h ⊢
  split at h
  · exact gStep_imp h fun S' h _ _ => hk S' h
  · exact hk _ h

theorem gStepI_comm {i j : Nat} (hp : pairB hc ops i j = true) {K : St → Prop} {S : St} (h : gStepI P hc ops i (gStepI P hc ops j K) S) : gStepI P hc ops j (gStepI P hc ops i K) S := by
  unfold pairB at hp
  cases hi : ops[i]? with
  | none =>
    have e : ∀ K' : St → Prop, gStepI P hc ops i K' = K' := fun K' => by funext S; simp [gStepI, hi]
    rw [e] at h ⊢; exact h
  | some oi =>
    cases hj : ops[j]? with
    | none =>
      have e : ∀ K' : St → Prop, gStepI P hc ops j K' = K' := fun K' => by funext S; simp [gStepI, hj]
      rw [e] at h ⊢; exact h
    | some oj =>
      simp only [hi, hj, Bool.and_eq_true] at hp
      have ei : ∀ K' : St → Prop, gStepI P hc ops i K' = gStep P hc ops oi K' := fun K' => by funext S; simp [gStepI, hi]
      have ej : ∀ K' : St → Prop, gStepI P hc ops j K' = gStep P hc ops oj K' := fun K' => by funext S; simp [gStepI, hj]
      rw [ei, ej] at h
      rw [ei, ej]
      exact gStep_comm hp.1 hp.2 h

theorem gSeqI_front {K : St → Prop} {i : Nat} {B : List Nat} : ∀ {A : List Nat} {S : St}, (∀ j ∈ A, pairB hc ops j i = true) → gSeqI P hc ops K (A ++ i :: B) S → gStepI P hc ops i (gSeqI P hc ops K (A ++ B)) S
  | [], _, _, h => h
  | j :: A, S, hp, h => by
    refine gStepI_comm (hp j List.mem_cons_self) ?_
    exact gStepI_mono (fun S' h' => gSeqI_front (fun j' hj' => hp j' (List.mem_cons_of_mem _ hj')) h') h

theorem appendAny_of {S : St} {d : Option Nat} {t : TypeId} {s x : V} {K : St → Prop} (h : appendK P S d t s x K) : appendAny P S d t t s x K := by
  have no : ∀ a n c, s = .lit (.slice (some a) n c) → False := fun a n c e => by
    subst e
    unfold appendK at h
    split at h
    · split at h
      · have h := h.2
        unfold onL at h
        split at h
        · exact h.2.elim
        · exact h.elim
        · exact h.elim
      · exact h.elim
    · exact h.elim
  unfold appendAny
  split
  · exact (no _ _ _ rfl).elim
  · exact (no _ _ _ rfl).elim
  · exact .inl ⟨rfl, h⟩
  · unfold appendK at h
    split at h
    · split at h
      · exact (show False from h.2).elim
      · exact h.elim
    · exact h.elim
  · exact ⟨rfl, h⟩

theorem aOp_of_gHard {hc : Option Bool} {S : St} {o : Oper} {K : St → Prop} (h : gHard P hc S o K) : aOp P S o K := by
  unfold gHard at h
  unfold aOp
  split at h
  · rename_i ho; simp only [ho]; exact h
  · rename_i ho; simp only [ho]; exact h
  · rename_i ho; simp only [ho]; exact h
  · rename_i c ho
    simp only [ho]
    split at h
    · rename_i hcl
      split at h
      · rename_i ha ht
        obtain ⟨rfl, h⟩ := h
        simp only [hcl, ha, ht]
        exact appendAny_of h
      · exact h.elim
    · rename_i hcl
      split at h
      · rename_i ha ht
        simp only [hcl, ha, ht]
        exact h
      · exact h.elim
    · rename_i hcl
      simp only [hcl]
      split at h
      · unfold callX at h
        unfold callE
        split at h
        · rename_i hf
          simp only [hf]
          simp only [h.1]
          exact h.2
        · exact h.elim
      · unfold callR at h
        unfold callE
        split at h
        · rename_i hf
          simp only [hf]
          simp only [h.1]
          exact ⟨[], S.boxes, by simp, h.2.mono fun v bs rs ⟨e, hk⟩ => by subst e; exact fun _ => hk⟩
        · exact h.elim
    · exact h.elim
  · rename_i ho; simp only [ho]; exact h
  · exact h.elim

theorem gStepI_wp {C : Ctx} {i : Nat} {S : St} {a : Act} {w : World} {I : Cells} {K : St → Prop} {K' : Act → World → Prop} {Q' : Exit → Act → World → Prop} (hd : ∀ o, ops[i]? = some o → dstOk C.N o = true) (hΓ : Γ C S a w I)
    (hk : ∀ S' a' w' I', Γ C S' a' w' I' → K S' → K' a' w') (h : gStepI C.P hc ops i K S) : wpOp C.P ops Q' i K' a w := by
  unfold gStepI at h
  unfold wpOp
  split at h
  · rename_i o ho
    simp only [ho]
    have h0 := hd o ho
    unfold gStep at h
    split at h
    · rename_i hw
      rw [if_pos (wantA_spec hΓ hw)]
      left
      unfold gCore at h
      split at h
      · obtain ⟨v, hv, hk'⟩ := detG_spec h
        exact Yld.wp hΓ h0 (hv _ _ _ (hΓ.reads _) hΓ.2) fun a' w' I' hΓ' => hk _ _ _ _ hΓ' hk'
      · exact Oper.wp_mono (fun a' w' ⟨S', I', hΓ', hk'⟩ => hk S' a' w' I' hΓ' hk') (aOp_spec h0 (aOp_of_gHard h) a w I hΓ Q')
    · rename_i hw
      rw [if_neg (by rw [wantA_spec hΓ hw]; simp)]
      exact hk _ _ _ I ⟨hΓ.1.put o.dst (dstOk_spec h0) (by simp only [skipV, V.rep]), hΓ.2.put _ _⟩ h
    · exact h.elim
  · rename_i ho; simp only [ho]; exact hk _ _ _ _ hΓ h

def leftOf (ops : Array Oper) (listed : Array Bool) : List Nat := (List.range ops.size).filter fun i => !listed.getD i true

theorem getD_ft {l : Array Bool} {i : Nat} (h : l.getD i false = true) : l.getD i true = true := by
  by_cases hi : i < l.size
  · simpa [Array.getD, hi] using h
  · simp [Array.getD, hi]

theorem getD_tf {l : Array Bool} {i : Nat} (hi : i < l.size) : l.getD i false = l.getD i true := by
  simp [Array.getD, hi]

theorem ready_of {listed : Array Bool} {i : Nat} (hi : i ∈ Region.ready md ops listed) : i < ops.size ∧ listed.getD i true = false ∧ waitsFor md ops listed i := by
  simp only [Region.ready, List.mem_filter, List.mem_range, Bool.and_eq_true, Bool.not_eq_true'] at hi
  refine ⟨hi.1, hi.2.1, fun o ho e he hb => ?_⟩
  have h2 := hi.2.2
  simp only [ho, Option.map_some, Option.getD_some, Array.all_eq_true_iff_forall_mem] at h2
  have := h2 e he
  simpa [hb] using this

theorem ready_mk {listed : Array Bool} {i : Nat} (hi : i < ops.size) (hu : listed.getD i true = false) (hw : waitsFor md ops listed i) : i ∈ Region.ready md ops listed := by
  simp only [Region.ready, List.mem_filter, List.mem_range, Bool.and_eq_true, Bool.not_eq_true']
  refine ⟨hi, hu, ?_⟩
  obtain ⟨o, ho⟩ : ∃ o, ops[i]? = some o := ⟨_, Array.getElem?_eq_getElem hi⟩
  simp only [ho, Option.map_some, Option.getD_some, Array.all_eq_true_iff_forall_mem]
  intro e he
  by_cases hb : Region.binds md e = true
  · simp [hw o ho e he hb]
  · simp [hb]

theorem lexB_spec (h : lexB md ops = true) {i : Nat} {o : Oper} (ho : ops[i]? = some o) {e : Edge} (he : e ∈ o.after) (hb : Region.binds md e = true) : e.on < i := by
  have hi : i < ops.size := (Array.getElem?_eq_some_iff.1 ho).1
  simp only [lexB, List.all_eq_true, List.mem_range] at h
  have := h i hi
  simp only [ho, List.all_eq_true, Bool.or_eq_true, Bool.not_eq_true', decide_eq_true_eq] at this
  rcases this e (by simpa using he) with h' | h'
  · rw [hb] at h'; cases h'
  · exact h'

theorem wpAny_of_mixed {C : Ctx} {K : St → Prop} {Q : Exit → Act → World → Prop} (hlex : lexB md ops = true) (hfree : freeB hc ops (ancs md ops ops.size) ops.size = true)
    (hd : ∀ (i : Nat) (o : Oper), ops[i]? = some o → dstOk C.N o = true) (hQ : ∀ S a w I, Γ C S a w I → K S → Q .normal a w) :
    ∀ (f : Nat) (listed : Array Bool) (S : St) (a : Act) (w : World) (I : Cells), listed.size = ops.size → DownC md ops listed → (leftOf ops listed).length = f → Γ C S a w I → gSeqI C.P hc ops K (leftOf ops listed) S → wpAny C.P md ops Q f listed a w := by
  intro f
  induction f with
  | zero =>
    intro listed S a w I hsz hdn hf hΓ h
    have hnil : leftOf ops listed = [] := List.length_eq_zero_iff.1 hf
    rw [hnil] at h
    refine ⟨?_, hQ S a w I hΓ h⟩
    cases hr : Region.ready md ops listed with
    | nil => rfl
    | cons i r =>
      obtain ⟨h1, h2, _⟩ := ready_of (md := md) (ops := ops) (listed := listed) (i := i) (by rw [hr]; exact List.mem_cons_self)
      have : i ∈ leftOf ops listed := by simp only [leftOf, List.mem_filter, List.mem_range, h2]; exact ⟨h1, rfl⟩
      rw [hnil] at this
      cases this
  | succ f ih =>
    intro listed S a w I hsz hdn hf hΓ h
    refine ⟨fun h0 => ?_, fun i hi => ?_⟩
    · -- the first of those that are left is ready
      cases hl : leftOf ops listed with
      | nil => rw [hl] at hf; simp at hf
      | cons i r =>
        have hm : i ∈ leftOf ops listed := by rw [hl]; exact List.mem_cons_self
        have hm' := hm
        simp only [leftOf, List.mem_filter, List.mem_range, Bool.not_eq_true'] at hm
        have hlt : ∀ j, j < i → listed.getD j true = true := fun j hj => by
          by_cases hju : listed.getD j true = true
          · exact hju
          · have hjm : j ∈ leftOf ops listed := by simp only [leftOf, List.mem_filter, List.mem_range]; exact ⟨by omega, by simpa using hju⟩
            have hs : (leftOf ops listed).Pairwise (· < ·) := List.Pairwise.filter _ List.pairwise_lt_range
            rw [hl] at hjm hs
            rcases List.mem_cons.1 hjm with rfl | hjm
            · omega
            · have := (List.pairwise_cons.1 hs).1 j hjm
              omega
        have : i ∈ Region.ready md ops listed := ready_mk hm.1 hm.2 fun o ho e he hb => by
          have h1 := lexB_spec hlex ho he hb
          rw [getD_tf (by omega)]
          exact hlt _ h1
        rw [h0] at this
        cases this
    · obtain ⟨h1, h2, h3⟩ := ready_of hi
      have hm : i ∈ leftOf ops listed := by simp only [leftOf, List.mem_filter, List.mem_range, h2]; exact ⟨h1, rfl⟩
      obtain ⟨A, B, hAB⟩ := List.append_of_mem hm
      have hs : (leftOf ops listed).Pairwise (· < ·) := List.Pairwise.filter _ List.pairwise_lt_range
      have hfront := gSeqI_front (P := C.P) (hc := hc) (ops := ops) (K := K) (i := i) (A := A) (B := B) (S := S) (fun j hj => by
        have hji : j < i := by
          rw [hAB] at hs
          exact (List.pairwise_append.1 hs).2.2 j hj i List.mem_cons_self
        have hjm : j ∈ leftOf ops listed := by rw [hAB]; exact List.mem_append_left _ hj
        simp only [leftOf, List.mem_filter, List.mem_range, Bool.not_eq_true'] at hjm
        rcases freeB_spec hfree i j hji h1 with h | h
        · have := ancs_spec hdn ops.size i h3 j h
          rw [getD_ft this] at hjm
          cases hjm.2
        · exact h) (by rw [← hAB]; exact h)
      refine gStepI_wp (hd i) hΓ (fun S' a' w' I' hΓ' hk => ?_) hfront
      have hset : ∀ k, (listed.setIfInBounds i true).getD k true = (if k = i then true else listed.getD k true) := fun k => by
        by_cases hk : k = i
        · subst hk
          have : k < listed.size := by omega
          simp [Array.getD, this]
        · by_cases hks : k < listed.size
          · simp [Array.getD, hks, hk, Array.getElem_setIfInBounds_ne _ (Ne.symm hk)]
          · simp [Array.getD, hks, hk]
      have hleft : leftOf ops (listed.setIfInBounds i true) = A ++ B := by
        have e : leftOf ops (listed.setIfInBounds i true) = (leftOf ops listed).filter fun k => decide (k ≠ i) := by
          unfold leftOf
          rw [List.filter_filter]
          refine List.filter_congr fun k _ => ?_
          rw [hset]
          by_cases hk : k = i <;> simp [hk]
        rw [e, hAB]
        rw [hAB] at hs
        have hn : (A ++ i :: B).Nodup := hs.imp fun h => Nat.ne_of_lt h
        have hnA : i ∉ A := fun hA => (List.nodup_append.1 hn).2.2 i hA i List.mem_cons_self rfl
        have hnB : i ∉ B := (List.nodup_cons.1 (List.nodup_append.1 hn).2.1).1
        rw [List.filter_append, List.filter_cons]
        simp only [ne_eq, not_true_eq_false, decide_false, Bool.false_eq_true, if_false]
        rw [List.filter_eq_self.2 fun k hk => by simpa using fun e => hnA (by rw [← e]; exact hk), List.filter_eq_self.2 fun k hk => by simpa using fun e => hnB (by rw [← e]; exact hk)]
      refine ih (listed.setIfInBounds i true) S' a' w' I' (by simpa using hsz) ?_ ?_ hΓ' (by rw [hleft]; exact hk)
      · intro k hk o ho e he hb
        have hold : ∀ m, listed.getD m false = true → (listed.setIfInBounds i true).getD m false = true := fun m hm => by
          have hms : m < listed.size := by
            by_cases h : m < listed.size
            · exact h
            · simp [Array.getD, h] at hm
          rw [getD_tf (by simpa using hms), hset]
          by_cases hmi : m = i
          · simp [hmi]
          · rw [if_neg hmi, ← getD_tf hms]; exact hm
        refine hold _ ?_
        by_cases hki : k = i
        · subst hki; exact h3 o ho e he hb
        · have hks : k < listed.size := by
            by_cases h : k < listed.size
            · exact h
            · simp [Array.getD, h] at hk
          refine hdn k ?_ o ho e he hb
          rw [getD_tf (by simpa using hks), hset, if_neg hki] at hk
          rw [getD_tf hks]; exact hk
      · rw [hleft]
        rw [hAB] at hf
        simp only [List.length_append, List.length_cons] at hf ⊢
        omega

/-- The operations of a region by themselves. -/
def gSeq (P : Program) (hc : Option Bool) (ops : Array Oper) (K : St → Prop) : List Oper → St → Prop
  | [], S => K S
  | o :: r, S => gStep P hc ops o (gSeq P hc ops K r) S

theorem gSeqI_of {K : St → Prop} : ∀ {l pre : List Oper} {S : St}, ops = (pre ++ l).toArray → gSeq P hc ops K l S → gSeqI P hc ops K ((List.range l.length).map (pre.length + ·)) S
  | [], _, _, _, h => h
  | o :: l, pre, S, he, h => by
    rw [List.length_cons, List.range_succ_eq_map, List.map_cons, List.map_map]
    have hi : ops[pre.length + 0]? = some o := by rw [he]; simp
    simp only [gSeqI, gStepI, hi]
    refine gStep_imp h fun S' h' _ _ => ?_
    have := gSeqI_of (pre := pre ++ [o]) (l := l) (S := S') (by simpa using he) h'
    have e : (fun i => (pre ++ [o]).length + i) = ((fun i => pre.length + i) ∘ Nat.succ) := by
      funext i; simp; omega
    rw [← e]; exact this

end
end Go.VL

/- The V logic, part 14: code and functions: 'cwp' (computed), loops by a rule, a function's contract out of its body. -/
namespace Go.VL
open Go.RowKit

def AWP (C : Ctx) (c : Code) (S : St) (Q : Exit → St → Prop) : Prop :=
  ∀ a w I, Γ C S a w I → c.wp C.P (fun e a' w' => ∃ S' I', Γ C S' a' w' I' ∧ Q e S') a w

def athen (K : St → Prop) (Q : Exit → St → Prop) : Exit → St → Prop
  | .normal, S => K S
  | .exit i, S => Q (.exit i) S
  | .goto l, S => Q (.goto l) S
  | .ret, S => Q .ret S
  | .panic c, S => Q (.panic c) S
  | .outgrown, S => Q .outgrown S

def ablock (id : Nat) (Q : Exit → St → Prop) : Exit → St → Prop
  | .normal, S => Q .normal S
  | .exit i, S => if i = id then Q .normal S else Q (.exit i) S
  | .goto l, S => Q (.goto l) S
  | .ret, S => Q .ret S
  | .panic c, S => Q (.panic c) S
  | .outgrown, S => Q .outgrown S

def anoGoto (Q : Exit → St → Prop) : Exit → St → Prop
  | .goto _, _ => False
  | e, S => Q e S

theorem AWP.mono {C c S} {Q Q' : Exit → St → Prop} (h : AWP C c S Q) (hq : ∀ e S, Q e S → Q' e S) : AWP C c S Q' :=
  fun a w I hΓ => wp_mono (h a w I hΓ) fun e _ _ ⟨S', I', h1, h2⟩ => ⟨S', I', h1, hq e S' h2⟩

theorem AWP.seq {C x y S Q} (h : AWP C x S (athen (fun S' => AWP C y S' Q) Q)) : AWP C (.seq x y) S Q := by
  intro a w I hΓ
  refine wp_seq (wp_mono (h a w I hΓ) fun e a' w' ⟨S', I', h1, h2⟩ => ?_)
  cases e with
  | normal => exact h2 a' w' I' h1
  | _ => exact ⟨S', I', h1, h2⟩

theorem AWP.block {C id c S Q} (h : AWP C c S (ablock id Q)) : AWP C (.block id c) S Q := by
  intro a w I hΓ
  refine wp_block (wp_mono (h a w I hΓ) fun e a' w' ⟨S', I', h1, h2⟩ => ?_)
  cases e with
  | exit i =>
    simp only [ablock] at h2
    simp only [Exit.inBlock]
    split
    · rename_i hi; rw [if_pos hi] at h2; exact ⟨S', I', h1, h2⟩
    · rename_i hi; rw [if_neg hi] at h2; exact ⟨S', I', h1, h2⟩
  | _ => exact ⟨S', I', h1, h2⟩

theorem AWP.scope {C c S Q} (h : AWP C c S (anoGoto Q)) : AWP C (.scope c) S Q := by
  intro a w I hΓ
  refine wp_scope_straight (wp_mono (h a w I hΓ) fun e a' w' ⟨S', I', h1, h2⟩ => ?_)
  cases e with
  | goto l => exact h2.elim
  | _ => exact ⟨S', I', h1, h2⟩

theorem AWP.cond {C c x y S Q} {b : Bool} (hc : ev S.σ c = .lit (.bool b)) (h : if b = true then AWP C x S Q else AWP C y S Q) : AWP C (.cond c x y) S Q := by
  intro a w I hΓ
  have r := hΓ.ev c
  rw [hc] at r
  simp only [V.rep] at r
  cases b
  · exact wp_cond_false r (h a w I hΓ)
  · exact wp_cond_true r (h a w I hΓ)

theorem AWP.loop {C c S Q} (J : Nat → St → Prop) (n : Nat) (h0 : J n S) (round : ∀ n S, J n S → AWP C c S (athen (fun S' => ∃ m, m < n ∧ J m S') Q)) : AWP C (.loop c) S Q := by
  intro a w I hΓ b k cs
  have key : ∀ n S a w I, Γ C S a w I → J n S →
      ∃ e a' w', (∃ S' I', Γ C S' a' w' I' ∧ Q e S') ∧ Arrives C.P (lone (b.at a (.code c :: .inLoop c :: k)) cs w) b k cs e a' w' := by
    intro n
    induction n using Nat.strongRecOn with
    | _ n ih =>
      intro S a w I hΓ hJ
      obtain ⟨e, a₁, w₁, ⟨S', I', hΓ', hq⟩, harr⟩ := round n S hJ a w I hΓ b (.inLoop c :: k) cs
      cases e with
      | normal =>
        obtain ⟨m, hm, hJ'⟩ := hq
        obtain ⟨e₂, a₂, w₂, hq₂, harr₂⟩ := ih m hm S' a₁ w₁ I' hΓ' hJ'
        exact ⟨e₂, a₂, w₂, hq₂, .of_steps (Steps.trans harr (.one step_inLoop)) harr₂⟩
      | exit id => exact ⟨_, a₁, w₁, ⟨S', I', hΓ', hq⟩, .pass (x := .inLoop c) rfl (fun _ _ => .inl (by simp)) harr⟩
      | goto l => exact ⟨_, a₁, w₁, ⟨S', I', hΓ', hq⟩, .pass (x := .inLoop c) rfl (fun _ _ => .inl (by simp)) harr⟩
      | ret => exact ⟨_, a₁, w₁, ⟨S', I', hΓ', hq⟩, .pass (x := .inLoop c) rfl (fun _ _ => .inl (by simp)) harr⟩
      | panic ch => exact ⟨_, a₁, w₁, ⟨S', I', hΓ', hq⟩, .pass (x := .inLoop c) rfl (fun _ _ => .inl (by simp)) harr⟩
      | outgrown => exact ⟨_, a₁, w₁, ⟨S', I', hΓ', hq⟩, .pass (x := .inLoop c) rfl (fun _ _ => .inl (by simp)) harr⟩
  obtain ⟨e, a', w', hq, harr⟩ := key n S a w I hΓ h0
  exact ⟨e, a', w', hq, .of_steps (.one step_loop) harr⟩

theorem AWP.region {C id S Q} {ops : Array Oper} (hd : ∀ o ∈ ops.toList, dstOk C.N o = true) (h : aOps C.P ops (Q .normal) ops.toList S) : AWP C (.region id ops false) S Q := by
  intro a w I hΓ
  exact wp_region_list (aOps_spec (fun S' a' w' I' hΓ' hk => ⟨S', I', hΓ', hk⟩) ops.toList S a w I hd hΓ h)

theorem AWP.draw {C id S Q} {ops : Array Oper} (n : Nat) (hm : C.P.follows .mixedOrders = true) (hB : drawB ops n = true) (hd : ∀ o ∈ ops.toList, dstOk C.N o = true)
    (h : dOps C.P ops (fun S' => aOps C.P ops (Q .normal) (ops.toList.drop n) S') (ops.toList.take n) S) : AWP C (.region id ops true) S Q := by
  intro a w I hΓ
  have := wp_region_draw (l := ops.toList) (id := id) (Q := fun e a' w' => ∃ S' I', Γ C S' a' w' I' ∧ Q e S') n hm (by simpa using hB) hd hΓ (fun S' => aOps C.P ops (Q .normal) (ops.toList.drop n) S')
    (fun S' a' w' I' hΓ' hT => by
      have := aOps_spec (C := C) (ops := ops) (Q := fun e a' w' => ∃ S' I', Γ C S' a' w' I' ∧ Q e S') (fun S' a' w' I' hΓ' hk => ⟨S', I', hΓ', hk⟩) (ops.toList.drop n) S' a' w' I' (fun o ho => hd o (List.mem_of_mem_drop ho)) hΓ' hT
      simpa using this) (by simpa using h)
  simpa using this

/-- A region that draws its order, all pairs of which commute. -/
theorem AWP.mixed {C : Ctx} {ops : Array Oper} {id : Nat} {S : St} {Q : Exit → St → Prop} (hc : Option Bool) (hm : C.P.follows .mixedOrders = true) (hB : mixedB hc ops = true) (hd : ∀ o ∈ ops.toList, dstOk C.N o = true)
    (h : gSeq C.P hc ops (Q .normal) ops.toList S) : AWP C (.region id ops true) S Q := by
  intro a w I hΓ
  simp only [mixedB, Bool.and_eq_true] at hB
  refine wp_region_any hm ?_
  have hrep : ∀ i, (Array.replicate ops.size false).getD i false = false := fun i => by
    by_cases h : i < ops.size <;> simp [Array.getD, h]
  have hleft : leftOf ops (Array.replicate ops.size false) = List.range ops.size := by
    unfold leftOf
    refine List.filter_eq_self.2 fun i hi => ?_
    have := List.mem_range.1 hi
    simp [Array.getD, this]
  have h0 := gSeqI_of (P := C.P) (hc := hc) (ops := ops) (K := Q .normal) (l := ops.toList) (pre := []) (S := S) (by simp) h
  have e0 : (List.range ops.toList.length).map (([] : List Oper).length + ·) = List.range ops.size := by simp
  rw [e0] at h0
  exact wpAny_of_mixed (C := C) (hc := hc) (K := Q .normal) (Q := fun e a' w' => ∃ S' I', Γ C S' a' w' I' ∧ Q e S') hB.1 hB.2
    (fun i o ho => hd o (by obtain ⟨hi, e⟩ := Array.getElem?_eq_some_iff.1 ho; rw [← e]; simp)) (fun S a w I hΓ hk => ⟨S, I, hΓ, hk⟩) ops.size _ S a _ I (by simp)
    (fun i hi => by rw [hrep] at hi; cases hi) (by rw [hleft]; simp) ⟨hΓ.1.mono (Keeps.drew (fun _ => True) w I).stays, hΓ.2.quiet (fun _ => True) (fun _ _ => trivial) (Keeps.drew _ w I) hΓ.2.heap.inn⟩ (by rw [hleft]; exact h0)
/-- An operation of a drawn region that need not stand in its tail. -/
def softB (o : Oper) : Bool :=
  match o.op with
  | .alloc _ | .box _ _ | .store _ _ _ | .makeSlice _ _ _ | .makeMap _ _ | .lookup _ _ _ _ | .mapUpdate _ _ _ _ | .range _ _ | .next _ _ | .entry _ => false
  | .call c => match c.callee with
    | .builtin .append | .builtin .copy => false
    | _ => true
  | _ => true

def preN (ops : List Oper) : Nat := (ops.takeWhile softB).length

/-- The mode of a drawn region. 0: what only reads, then a tail in the order of the text; 1, 2: all pairs that are not ordered commute (1: calls only read; 2: calls hand rows back); others: left to a rule of its own. -/
def modeOf : List (Nat × Nat) → Nat → Nat
  | [], _ => 0
  | (i, m) :: r, j => if i = j then m else modeOf r j

/-- What is asked of the code: its slots are there; of each drawn region, that one order serves all. -/
def okCode (N : Nat) (M : List (Nat × Nat)) : Code → Bool
  | .seq x y => okCode N M x && okCode N M y
  | .cond _ x y => okCode N M x && okCode N M y
  | .block _ c | .scope c => okCode N M c
  | .region id ops d => ops.toList.all (dstOk N) && (!d || match modeOf M id with
    | 0 => drawB ops (preN ops.toList)
    | 1 => mixedB none ops
    | 2 => mixedB (some false) ops
    | 4 => mixedB (some true) ops
    | _ => true)
  | _ => true

/-- What code comes to, computed; loops are left to a rule. -/
def cwp (C : Ctx) : Code → St → (Exit → St → Prop) → Prop
  | .skip, S, Q => Q .normal S
  | .label _, S, Q => Q .normal S
  | .exit i, S, Q => Q (.exit i) S
  | .ret, S, Q => Q .ret S
  | .seq x y, S, Q => cwp C x S (athen (fun S' => cwp C y S' Q) Q)
  | .cond c x y, S, Q => match ev S.σ c with
    | .lit (.bool b) => if b = true then cwp C x S Q else cwp C y S Q
    | _ => False
  | .block id c, S, Q => cwp C c S (ablock id Q)
  | .scope c, S, Q => cwp C c S (anoGoto Q)
  | .region _ ops false, S, Q => aOps C.P ops (Q .normal) ops.toList S
  | .region id ops true, S, Q => match modeOf C.M id with
    | 0 => dOps C.P ops (fun S' => aOps C.P ops (Q .normal) (ops.toList.drop (preN ops.toList)) S') (ops.toList.take (preN ops.toList)) S
    | 1 => gSeq C.P none ops (Q .normal) ops.toList S
    | 2 => gSeq C.P (some false) ops (Q .normal) ops.toList S
    | 4 => gSeq C.P (some true) ops (Q .normal) ops.toList S
    | _ => AWP C (.region id ops true) S Q
  | c, S, Q => AWP C c S Q

theorem cwp_spec {C : Ctx} (hm : C.P.follows .mixedOrders = true) : ∀ (c : Code) (S : St) (Q : Exit → St → Prop), okCode C.N C.M c = true → cwp C c S Q → AWP C c S Q := by
  intro c
  induction c with
  | skip => exact fun S Q _ h a w I hΓ => wp_skip ⟨S, I, hΓ, h⟩
  | label l => exact fun S Q _ h a w I hΓ => wp_label ⟨S, I, hΓ, h⟩
  | exit i => exact fun S Q _ h a w I hΓ => wp_exit ⟨S, I, hΓ, h⟩
  | ret => exact fun S Q _ h a w I hΓ => wp_ret ⟨S, I, hΓ, h⟩
  | seq x y ihx ihy =>
    intro S Q hk h
    simp only [cwp] at h
    simp only [okCode, Bool.and_eq_true] at hk
    refine AWP.seq ((ihx S _ hk.1 h).mono fun e S' h' => ?_)
    cases e with
    | normal => exact ihy S' Q hk.2 h'
    | _ => exact h'
  | cond c x y ihx ihy =>
    intro S Q hk h
    simp only [cwp] at h
    simp only [okCode, Bool.and_eq_true] at hk
    split at h
    · rename_i b hb
      refine AWP.cond hb ?_
      cases b
      · exact ihy S Q hk.2 h
      · exact ihx S Q hk.1 h
    · exact h.elim
  | block id c ih => intro S Q hk h; simp only [cwp] at h; simp only [okCode] at hk; exact AWP.block (ih S _ hk h)
  | region id ops draw =>
    intro S Q hk h
    simp only [okCode, Bool.and_eq_true, List.all_eq_true] at hk
    cases draw
    · simp only [cwp] at h; exact AWP.region hk.1 h
    · simp only [cwp] at h
      have hk2 := hk.2
      simp only [Bool.not_true, Bool.false_or] at hk2
      split at h <;> rename_i hmo <;> simp only [hmo] at hk2
      · exact AWP.draw _ hm hk2 hk.1 h
      · exact AWP.mixed none hm hk2 hk.1 h
      · exact AWP.mixed (some false) hm hk2 hk.1 h
      · exact AWP.mixed (some true) hm hk2 hk.1 h
      · exact h
  | loop c _ => intro S Q _ h; simpa only [cwp] using h
  | rangeFunc f ps a b _ _ => intro S Q _ h; simpa only [cwp] using h
  | scope c ih => intro S Q hk h; simp only [cwp] at h; simp only [okCode] at hk; exact AWP.scope (ih S _ hk h)
  | goto l => intro S Q _ h; simpa only [cwp] using h
  | refuse why => intro S Q _ h; simpa only [cwp] using h

/-! ### A function -/

def resV (P : Program) (S : St) : List ResultVar → (List V → Prop) → Prop
  | [], k => k []
  | .tmp t :: r, k => resV P S r fun l => k (S.σ t :: l)
  | .cell t T :: r, k => atP S (S.σ t) fun cs => loadK P T cs fun v => resV P S r fun l => k (v :: l)

theorem resV_spec {C : Ctx} {S : St} : ∀ {rs : List ResultVar} {k : List V → Prop}, resV C.P S rs k → ∃ l, k l ∧ ∀ a w I, Γ C S a w I →
    ∃ xs, (rs.mapM fun | .tmp t => pure (a.tmps.getD t undef) | .cell t T => do loadVar T (← asAddr (a.tmps.getD t undef)) : Sem (List Value)).run C.P w = .ok xs w ∧ V.reps w I l xs
  | [], k, h => ⟨[], h, fun a w I _ => ⟨[], by simp, by simp [V.reps]⟩⟩
  | .tmp t :: r, k, h => by
    obtain ⟨l, hk, hl⟩ := resV_spec (C := C) (rs := r) (k := fun l => k (S.σ t :: l)) h
    refine ⟨_, hk, fun a w I hΓ => ?_⟩
    obtain ⟨xs, h1, h2⟩ := hl a w I hΓ
    refine ⟨a.tmps.getD t undef :: xs, ?_, by simp only [V.reps]; exact ⟨hΓ.1.tmps t, h2⟩⟩
    simp only [List.mapM_cons, Sem.run_bind, Sem.run_pure, Result.andThen_ok, h1]
  | .cell t T :: r, k, h => by
    simp only [resV] at h
    obtain ⟨cs, h, hcs⟩ := atP_spec (C := C) h
    obtain ⟨v, h, hv⟩ := loadK_spec h
    obtain ⟨l, hk, hl⟩ := resV_spec (C := C) (rs := r) (k := fun l => k (v :: l)) h
    refine ⟨_, hk, fun a w I hΓ => ?_⟩
    obtain ⟨b, o, e, hh⟩ := hcs w I _ hΓ.2 (hΓ.1.tmps t)
    obtain ⟨x, hx, hr⟩ := hv w I b o hh
    obtain ⟨xs, h1, h2⟩ := hl a w I hΓ
    refine ⟨x :: xs, ?_, by simp only [V.reps]; exact ⟨hr, h2⟩⟩
    have ea : (asAddr (a.tmps.getD t undef)).run C.P w = .ok ⟨b, o, none⟩ w := by rw [e]; rfl
    simp only [List.mapM_cons, Sem.run_bind, Sem.run_pure, Result.andThen_ok, ea, hx, h1]

/-- One result by itself, several as a tuple. -/
def packV : List V → V
  | [v] => v
  | l => .tup l

/-- What the function hands back, and what of its boxes and rows it hands over. -/
def retK (P : Program) (rs : List ResultVar) (Q : V → List (Nat × B) → List Row → Prop) (S : St) : Prop :=
  resV P S rs fun l => ∃ v bs' rs', Le (packV l) v ∧ bs'.Sublist S.boxes ∧ rs'.Sublist S.rows ∧ Q v bs' rs'

def retQ (P : Program) (rs : List ResultVar) (Q : V → List (Nat × B) → List Row → Prop) : Exit → St → Prop
  | .normal, S => retK P rs Q S
  | .ret, S => retK P rs Q S
  | _, _ => False

def S0 (args : List V) (bs : List (Nat × B)) : St := ⟨fun i => args.getD i .any, bs, []⟩

theorem retK_spec {C : Ctx} {S : St} {fn : Func} {Q : V → List (Nat × B) → List Row → Prop} {a : Act} {w : World} {I : Cells} (hΓ : Γ C S a w I) (h : retK C.P fn.results.toList Q S) :
    ∃ x v bs' rs', (results fn a.tmps).run C.P w = .ok x w ∧ V.rep w I v x ∧ bs'.Sublist S.boxes ∧ rs'.Sublist S.rows ∧ Q v bs' rs' := by
  obtain ⟨l, ⟨v, bs', rs', h1, h2, h3, h4⟩, hl⟩ := resV_spec (C := C) h
  obtain ⟨xs, g1, g2⟩ := hl a w I hΓ
  refine ⟨if h : xs.toArray.size = 1 then xs.toArray[0] else .tuple xs.toArray, v, bs', rs', ?_, ?_, h2, h3, h4⟩
  · have key : results fn a.tmps = (do
        let vs ← (List.toArray <$> fn.results.toList.mapM fun | .tmp t => pure (a.tmps.getD t undef) | .cell t T => do loadVar T (← asAddr (a.tmps.getD t undef)) : Sem (Array Value))
        pure (if h : vs.size = 1 then vs[0] else .tuple vs)) := by
      unfold results
      rw [Array.mapM_eq_mapM_toList]
      rfl
    rw [key]
    simp only [Sem.run_bind, Sem.run_map, g1, Result.andThen_ok, Sem.run_pure]
  · refine h1 w I _ ?_
    match l, xs, g2 with
    | [], [], _ => simp [packV, V.rep, V.reps]
    | [v1], [x1], g2 => simpa [packV, V.reps] using g2
    | v1 :: v2 :: l, x1 :: x2 :: xs, g2 => simpa [packV, V.rep] using g2
    | [], _ :: _, g2 => simp [V.reps] at g2
    | _ :: _, [], g2 => simp [V.reps] at g2
    | [v1], x1 :: x2 :: xs, g2 => simp [V.reps] at g2
    | v1 :: v2 :: l, [x1], g2 => simp [V.reps] at g2

theorem filterMap_sub {α β : Type} (f : α → Option β) {l l' : List α} (h : l.Sublist l') : (l.filterMap f).Sublist (l'.filterMap f) := h.filterMap f

theorem Heap.sub {w I bs rows bs' rows'} (h : Heap w I bs rows) (h1 : bs'.Sublist bs) (h2 : rows'.Sublist rows) : Heap w I bs' rows' :=
  ⟨fun p hp => h.bx p (h1.subset hp), fun r hr => h.rw r (h2.subset hr), (List.Sublist.append (h1.map _) (h2.filterMap _)).nodup h.nodup, h.inn⟩

/-- A CONTRACT OUT OF THE BODY. -/
theorem Ok.of_body (M : List (Nat × Nat)) {P : Program} {f : FuncId} {fn : Func} {c : Code} {args : List V} {bs : List (Nat × B)} {Q : V → List (Nat × B) → List Row → Prop} (hm : P.follows .mixedOrders = true) (hf : P.funcs[f]? = some fn) (hb : fn.body = some c) (hn : args.length ≤ fn.ntmps) (hk : okCode fn.ntmps M c = true)
    (h : ∀ F w0 I0, cwp ⟨P, fn.ntmps, F, w0, I0, M⟩ c (S0 args bs) (retQ P fn.results.toList Q)) : Ok P f args bs Q := by
  intro w I xs hr hH
  have hl := reps_length hr
  refine calls_of_wp hf hb ?_
  let C : Ctx := ⟨P, fn.ntmps, fun b => b < w.heap.size ∧ b ∉ bs.map (·.1), w, I, M⟩
  have hΓ : Γ C (S0 args bs) { tmps := xs.toArray ++ Array.replicate (fn.ntmps - xs.toArray.size) undef, defers := [] } w I := by
    refine ⟨⟨by simp [C, hl]; omega, rfl, fun i => ?_⟩, ⟨hH, fun b hb => ?_, Keeps.refl _ _ _, fun b hb => hb.1⟩⟩
    · by_cases hi : i < args.length
      · have hix : i < xs.length := by omega
        obtain ⟨v, e1, e2⟩ := reps_get hr i _ (List.getElem?_eq_getElem hix)
        have : (xs.toArray ++ Array.replicate (fn.ntmps - xs.toArray.size) undef).getD i undef = xs[i] := by
          simp [Array.getElem?_append, hix]
        simp only [S0, List.getD, e1, Option.getD_some, this]
        exact e2
      · simp only [S0, List.getD, List.getElem?_eq_none (Nat.le_of_not_lt hi), Option.getD_none, V.rep]
    · simp only [blks, S0, List.filterMap_nil, List.append_nil] at hb
      exact fun hF => hF.2 hb
  refine wp_mono (cwp_spec (C := C) hm c _ _ hk (h _ _ _) _ w I hΓ) fun e a' w' ⟨S', I', hΓ', hq⟩ => ?_
  have fin : ∀ S', Γ C S' a' w' I' → retK P fn.results.toList Q S' → a'.defers = [] ∧ ∃ v, (results fn a'.tmps).run P w' = .ok v w' ∧
      ∃ x v' bs' rs' I', Ending.returned v = .returned x ∧ V.rep w' I' v' x ∧ Keeps (fun b => b < w.heap.size ∧ b ∉ bs.map (·.1)) w I w' I' ∧ Heap w' I' bs' rs' ∧ (∀ b ∈ blks bs' rs', ¬ (b < w.heap.size ∧ b ∉ bs.map (·.1))) ∧ Q v' bs' rs' := by
    intro S' hΓ' hq
    obtain ⟨x, v, bs', rs', h1, h2, h3, h4, h5⟩ := retK_spec (C := C) hΓ' hq
    exact ⟨hΓ'.1.defers, x, h1, x, v, bs', rs', I', rfl, h2, hΓ'.2.keeps, hΓ'.2.heap.sub h3 h4, fun b hb => hΓ'.2.mine b ((List.Sublist.append (h3.map _) (h4.filterMap _)).subset hb), h5⟩
  cases e with
  | normal => exact fin S' hΓ' hq
  | ret => exact fin S' hΓ' hq
  | exit i => exact hq.elim
  | goto l => exact hq.elim
  | panic c => exact hq.elim
  | outgrown => exact hq.elim


/-- The usual contract: the result, and nothing handed over. -/
def OkP (P : Program) (f : FuncId) (args : List V) (v : V) : Prop := Ok P f args [] fun r bs rs => r = v ∧ bs = [] ∧ rs = []

theorem OkP.v {P f args v} (h : OkP P f args v) : OkV P f args v := h.mono fun _ _ _ ⟨e, _, _⟩ => e ▸ Le.refl _

end Go.VL

