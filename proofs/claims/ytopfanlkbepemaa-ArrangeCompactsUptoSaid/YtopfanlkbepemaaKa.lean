/- Merged out of my texts V1 V2 V3 V4 V5 V6 V7 V8 V9 V10 V11 V12 VA VB VC VD VI. -/
import Derived.WalkKit
import Derived.Laws.Strings
import Derived.Laws.Cover3
import Derived.Laws.Slices
import Derived.StillTail
import Derived.Laws.AppendOwn
import Derived.Laws.AppendOwnNone
import Derived.Deep.AppendSrc
import Derived.Laws.MakeOwn
import Derived.ChangeKeysEq
import Derived.Laws.StructEq
/- The V logic, part 1: abstract values and how a value in memory represents one. No program in sight. -/
namespace Go.VL

/-- Abstract values. 'list own k es': a slice whose elements are rows of k cells each ('own': the very slice value, where it is known). 'ref cs': a pointer to cells that hold cs and stay as they are. -/
inductive V where
  | any
  | lit (v : Value)
  | agg (vs : List V)
  | list (own : Option Value) (k : Nat) (es : List (List V))
  | ref (vs : List V)
  | tup (vs : List V)
  deriving Inhabited

/-- Sets of cells. -/
abbrev Cells := Nat → Nat → Prop

/-- A value that fits into one cell. -/
def one : Value → Prop
  | .agg _ => False
  | .tuple _ => False
  | _ => True

mutual
def V.rep (w : World) (I : Cells) : V → Value → Prop
  | .any, _ => True
  | .lit v, x => x = v
  | .agg vs, x => ∃ xs, x = .agg xs ∧ V.reps w I vs xs.toList
  | .list own k es, x => (∀ y, own = some y → x = y) ∧ ∃ a c, x = .slice a es.length c ∧ es.length ≤ c ∧ (es = [] ∨ ∃ b o, a = some ⟨b, o, none⟩ ∧ V.lies w I k es b o)
  | .ref vs, x => ∃ b o, x = .pointer (some ⟨b, o, none⟩) ∧ V.ats w I vs b o
  | .tup vs, x => ∃ xs, x = .tuple xs ∧ V.reps w I vs xs.toList
def V.reps (w : World) (I : Cells) : List V → List Value → Prop
  | [], [] => True
  | v :: vs, x :: xs => V.rep w I v x ∧ V.reps w I vs xs
  | [], _ :: _ => False
  | _ :: _, [] => False
def V.ats (w : World) (I : Cells) : List V → Nat → Nat → Prop
  | [], _, _ => True
  | v :: vs, b, o => (∃ x, w.cell? ⟨b, o, none⟩ = some x ∧ I b o ∧ one x ∧ V.rep w I v x) ∧ V.ats w I vs b (o + 1)
def V.lies (w : World) (I : Cells) (k : Nat) : List (List V) → Nat → Nat → Prop
  | [], _, _ => True
  | e :: es, b, o => V.ats w I e b o ∧ e.length = k ∧ V.lies w I k es b (o + k)
end

/-- What stays: the cells of I read as they did, and are in I'. -/
def Stays (w : World) (I : Cells) (w' : World) (I' : Cells) : Prop := ∀ b o, I b o → I' b o ∧ w'.cell? ⟨b, o, none⟩ = w.cell? ⟨b, o, none⟩

theorem Stays.refl (w : World) (I : Cells) : Stays w I w I := fun _ _ h => ⟨h, rfl⟩
theorem Stays.trans {w I w' I' w'' I''} (h : Stays w I w' I') (h' : Stays w' I' w'' I'') : Stays w I w'' I'' :=
  fun b o hi => ⟨(h' b o (h b o hi).1).1, ((h' b o (h b o hi).1).2).trans (h b o hi).2⟩

section
variable {w w' : World} {I I' : Cells}
mutual
theorem V.rep_mono (hs : Stays w I w' I') : ∀ (v : V) (x : Value), V.rep w I v x → V.rep w' I' v x
  | .any, _, _ => by simp only [V.rep]
  | .lit v, x, h => by simp only [V.rep] at h ⊢; exact h
  | .agg vs, x, h => by
    simp only [V.rep] at h ⊢
    obtain ⟨xs, h1, h2⟩ := h
    exact ⟨xs, h1, V.reps_mono hs vs _ h2⟩
  | .list own k es, x, h => by
    simp only [V.rep] at h ⊢
    obtain ⟨h1, a, c, h2, h3, h4⟩ := h
    exact ⟨h1, a, c, h2, h3, h4.imp id fun ⟨b, o, h5, h6⟩ => ⟨b, o, h5, V.lies_mono hs k es _ _ h6⟩⟩
  | .ref vs, x, h => by
    simp only [V.rep] at h ⊢
    obtain ⟨b, o, h1, h2⟩ := h
    exact ⟨b, o, h1, V.ats_mono hs vs _ _ h2⟩
  | .tup vs, x, h => by
    simp only [V.rep] at h ⊢
    obtain ⟨xs, h1, h2⟩ := h
    exact ⟨xs, h1, V.reps_mono hs vs _ h2⟩
theorem V.reps_mono (hs : Stays w I w' I') : ∀ (vs : List V) (xs : List Value), V.reps w I vs xs → V.reps w' I' vs xs
  | [], [], _ => by simp only [V.reps]
  | v :: vs, x :: xs, h => by
    simp only [V.reps] at h ⊢
    exact ⟨V.rep_mono hs v x h.1, V.reps_mono hs vs xs h.2⟩
  | [], _ :: _, h => by simp only [V.reps] at h
  | _ :: _, [], h => by simp only [V.reps] at h
theorem V.ats_mono (hs : Stays w I w' I') : ∀ (vs : List V) (b o : Nat), V.ats w I vs b o → V.ats w' I' vs b o
  | [], _, _, _ => by simp only [V.ats]
  | v :: vs, b, o, h => by
    simp only [V.ats] at h ⊢
    obtain ⟨⟨x, h1, h2, h3, h4⟩, h5⟩ := h
    exact ⟨⟨x, by rw [(hs b o h2).2]; exact h1, (hs b o h2).1, h3, V.rep_mono hs v x h4⟩, V.ats_mono hs vs b (o + 1) h5⟩
theorem V.lies_mono (hs : Stays w I w' I') : ∀ (k : Nat) (es : List (List V)) (b o : Nat), V.lies w I k es b o → V.lies w' I' k es b o
  | _, [], _, _, _ => by simp only [V.lies]
  | k, e :: es, b, o, h => by
    simp only [V.lies] at h ⊢
    exact ⟨V.ats_mono hs e b o h.1, h.2.1, V.lies_mono hs k es b (o + k) h.2.2⟩
end
end

section
variable {w : World} {I : Cells}

theorem reps_length : ∀ {vs : List V} {xs : List Value}, V.reps w I vs xs → xs.length = vs.length
  | [], [], _ => rfl
  | _ :: vs, _ :: xs, h => by simp only [V.reps] at h; simp [reps_length h.2]
  | [], _ :: _, h => by simp only [V.reps] at h
  | _ :: _, [], h => by simp only [V.reps] at h

theorem reps_get : ∀ {vs : List V} {xs : List Value}, V.reps w I vs xs → ∀ (i : Nat) (x : Value), xs[i]? = some x → ∃ v, vs[i]? = some v ∧ V.rep w I v x
  | [], [], _, i, x, h => by simp at h
  | v :: vs, y :: xs, h, 0, x, hx => by
    simp only [V.reps] at h
    simp at hx; subst hx
    exact ⟨v, rfl, h.1⟩
  | _ :: vs, _ :: xs, h, i + 1, x, hx => by
    simp only [V.reps] at h
    simpa using reps_get h.2 i x (by simpa using hx)
  | [], _ :: _, h, _, _, _ => by simp only [V.reps] at h
  | _ :: _, [], h, _, _, _ => by simp only [V.reps] at h

theorem ats_append : ∀ {vs us : List V} {b o : Nat}, V.ats w I (vs ++ us) b o ↔ V.ats w I vs b o ∧ V.ats w I us b (o + vs.length)
  | [], us, b, o => by simp [V.ats]
  | v :: vs, us, b, o => by
    simp only [List.cons_append, V.ats, List.length_cons]
    rw [ats_append (vs := vs), and_assoc, show o + 1 + vs.length = o + (vs.length + 1) from by omega]

theorem ats_drop {vs : List V} {b o : Nat} (h : V.ats w I vs b o) (n : Nat) (hn : n ≤ vs.length) : V.ats w I (vs.drop n) b (o + n) := by
  have := ats_append (w := w) (I := I) (vs := vs.take n) (us := vs.drop n) (b := b) (o := o)
  rw [List.take_append_drop] at this
  have h2 := (this.1 h).2
  rwa [List.length_take, Nat.min_eq_left hn] at h2

theorem ats_take {vs : List V} {b o : Nat} (h : V.ats w I vs b o) (n : Nat) : V.ats w I (vs.take n) b o := by
  have := ats_append (w := w) (I := I) (vs := vs.take n) (us := vs.drop n) (b := b) (o := o)
  rw [List.take_append_drop] at this
  exact (this.1 h).1

theorem lies_append : ∀ {k : Nat} {es fs : List (List V)} {b o : Nat}, V.lies w I k (es ++ fs) b o ↔ V.lies w I k es b o ∧ V.lies w I k fs b (o + es.length * k)
  | k, [], fs, b, o => by simp [V.lies]
  | k, e :: es, fs, b, o => by
    simp only [List.cons_append, V.lies, List.length_cons]
    rw [lies_append (es := es), show o + k + es.length * k = o + (es.length + 1) * k from by rw [Nat.add_mul]; omega]
    constructor
    · rintro ⟨h1, h2, h3, h4⟩; exact ⟨⟨h1, h2, h3⟩, h4⟩
    · rintro ⟨⟨h1, h2, h3⟩, h4⟩; exact ⟨h1, h2, h3, h4⟩

theorem lies_get : ∀ {k : Nat} {es : List (List V)} {b o : Nat}, V.lies w I k es b o → ∀ (i : Nat) (e : List V), es[i]? = some e → V.ats w I e b (o + i * k) ∧ e.length = k
  | k, e :: es, b, o, h, 0, e', he => by
    simp only [V.lies] at h
    simp at he; subst he
    simpa using ⟨h.1, h.2.1⟩
  | k, e :: es, b, o, h, i + 1, e', he => by
    simp only [V.lies] at h
    have := lies_get h.2.2 i e' (by simpa using he)
    rwa [show o + k + i * k = o + (i + 1) * k from by rw [Nat.add_mul]; omega] at this
  | k, [], b, o, h, i, e', he => by simp at he

/-- The cells of a row of V's that lies in memory. -/
theorem ats_cell : ∀ {vs : List V} {b o : Nat}, V.ats w I vs b o → ∀ (j : Nat) (v : V), vs[j]? = some v → ∃ x, w.cell? ⟨b, o + j, none⟩ = some x ∧ I b (o + j) ∧ one x ∧ V.rep w I v x
  | v :: vs, b, o, h, 0, v', hv => by
    simp only [V.ats] at h
    simp at hv; subst hv
    simpa using h.1
  | v :: vs, b, o, h, j + 1, v', hv => by
    simp only [V.ats] at h
    have := ats_cell h.2 j v' (by simpa using hv)
    rwa [show o + 1 + j = o + (j + 1) from by omega] at this
  | [], b, o, h, j, v', hv => by simp at hv
end
end Go.VL

/- The V logic, part 2: what a function holds of memory while it runs (boxes, owned rows), and what every step keeps. -/
namespace Go.VL
open Go.RowKit

/-- An owned row: the very slice value, the cells of an element, the element's type. -/
structure Row where
  x : Value
  k : Nat
  e : TypeId

/-- The kind of a scalar cell. -/
inductive Sh where
  | b
  | i (k : IntKind)
  | s

def fit : Sh → Value → Bool
  | .b, .bool _ => true
  | .i k, .int k' _ => decide (k = k')
  | .s, .string _ => true
  | _, _ => false
def fitL : List Sh → List Value → Bool
  | [], [] => true
  | a :: r, x :: xs => fit a x && fitL r xs
  | _, _ => false

/-- A key of a map: its cells are scalars of these kinds; is it an aggregate? -/
def keyS (ks : List Sh × Bool) (v : Value) : Bool := fitL ks.1 v.cells.toList && (match v with | .agg _ => ks.2 | .tuple _ => false | _ => !ks.2)

/-- What a block of ours holds: cells; a map's entries (born, key, element) and its clock; an iterator over a map. -/
inductive B where
  | c (cs : List V)
  | m (ks : List Sh × Bool) (es : List (Nat × Value × V)) (clock : Nat)
  | it (mb : Nat) (since : Nat) (seen : List Nat) (last : Nat)

structure St where
  σ : Nat → V
  boxes : List (Nat × B)
  rows : List Row

def Row.blk (r : Row) : Option Nat := r.x.ownBlock
def blks (boxes : List (Nat × B)) (rows : List Row) : List Nat := boxes.map (·.1) ++ rows.filterMap Row.blk

/-- Block b is a box that holds what is said, outside of I. -/
def BoxAt (w : World) (I : Cells) (b : Nat) : B → Prop
  | .c cs => ∃ arr e, w.heap[b]? = some (.cells arr e (0, 0)) ∧ (∀ x ∈ arr.toList, one x) ∧ V.reps w I cs arr.toList ∧ ∀ o, ¬ I b o
  | .m ks es clock => ∃ arr, w.heap[b]? = some (.map arr clock) ∧ (arr.toList.map (·.born) = es.map (·.1) ∧ arr.toList.map (·.key) = es.map (·.2.1) ∧ (∀ e ∈ es, keyS ks e.2.1 = true) ∧ (es.map (·.1)).Pairwise (· < ·) ∧ ∀ e ∈ es, e.1 < clock) ∧ V.reps w I (es.map (·.2.2)) (arr.toList.map (·.val)) ∧ ∀ o, ¬ I b o
  | .it mb since seen last => w.heap[b]? = some (.mapIter (some mb) since seen.toArray last) ∧ ∀ o, ¬ I b o

/-- A slice's length. -/
def slen : Value → Nat
  | .slice _ n _ => n
  | _ => 0

/-- The row is owned; what lies behind its length is outside of I. -/
def RowAt (w : World) (I : Cells) (r : Row) : Prop :=
  0 < r.k ∧ (∃ e xs, w.ownsRow 0 e r.k r.x (slen r.x) xs) ∧ ∀ g, r.x.ownBlock = some g → ∀ o, slen r.x * r.k ≤ o → ¬ I g o

structure Heap (w : World) (I : Cells) (boxes : List (Nat × B)) (rows : List Row) : Prop where
  bx : ∀ p ∈ boxes, BoxAt w I p.1 p.2
  rw : ∀ r ∈ rows, RowAt w I r
  nodup : (blks boxes rows).Nodup
  inn : ∀ b o, I b o → b < w.heap.size

/-- What is kept of the world in which the function began; F: the blocks that are not its own. -/
structure Keeps (F : Nat → Prop) (w : World) (I : Cells) (w' : World) (I' : Cells) : Prop where
  os : w'.os = w.os
  tape : w'.tape = w.tape
  output : w'.output = w.output
  size : w.heap.size ≤ w'.heap.size
  block : ∀ b, F b → w'.heap[b]? = w.heap[b]?
  stays : Stays w I w' I'
  old : ∀ b o, F b → I' b o → I b o
  drawn : w.drawn ≤ w'.drawn

theorem Keeps.refl (F w I) : Keeps F w I w I := ⟨rfl, rfl, rfl, Nat.le_refl _, fun _ _ => rfl, Stays.refl _ _, fun _ _ _ h => h, Nat.le_refl _⟩
theorem Keeps.trans {F w I w' I' w'' I''} (h : Keeps F w I w' I') (h' : Keeps F w' I' w'' I'') : Keeps F w I w'' I'' :=
  ⟨h'.os.trans h.os, h'.tape.trans h.tape, h'.output.trans h.output, Nat.le_trans h.size h'.size, fun b hb => (h'.block b hb).trans (h.block b hb),
   h.stays.trans h'.stays, fun b o hb hi => h.old b o hb (h'.old b o hb hi), Nat.le_trans h.drawn h'.drawn⟩
theorem Keeps.mono {F F' : Nat → Prop} {w I w' I'} (h : Keeps F w I w' I') (hF : ∀ b, F' b → F b) : Keeps F' w I w' I' :=
  ⟨h.os, h.tape, h.output, h.size, fun b hb => h.block b (hF b hb), h.stays, fun b o hb => h.old b o (hF b hb), h.drawn⟩

/-- The function's frame of reference. -/
structure Ctx where
  P : Program
  N : Nat
  F : Nat → Prop
  w0 : World
  I0 : Cells
  M : List (Nat × Nat)

/-- The part of the state that speaks of memory. -/
structure ΓW (C : Ctx) (S : St) (w : World) (I : Cells) : Prop where
  heap : Heap w I S.boxes S.rows
  mine : ∀ b ∈ blks S.boxes S.rows, ¬ C.F b
  keeps : Keeps C.F C.w0 C.I0 w I
  lo : ∀ b, C.F b → b < C.w0.heap.size

/-- The part that speaks of the slots. -/
structure ΓA (N : Nat) (σ : Nat → V) (a : Act) (w : World) (I : Cells) : Prop where
  size : a.tmps.size = N
  defers : a.defers = []
  tmps : ∀ i, V.rep w I (σ i) (a.tmps.getD i undef)

def Γ (C : Ctx) (S : St) (a : Act) (w : World) (I : Cells) : Prop := ΓA C.N S.σ a w I ∧ ΓW C S w I

/-- One slot is written. -/
def upd (σ : Nat → V) (d : Option Nat) (v : V) : Nat → V := fun i => if d = some i then v else σ i

theorem ΓA.mono {N σ a w I w' I'} (h : ΓA N σ a w I) (hs : Stays w I w' I') : ΓA N σ a w' I' :=
  ⟨h.size, h.defers, fun i => V.rep_mono hs _ _ (h.tmps i)⟩

theorem ΓA.put {N σ a w I} (h : ΓA N σ a w I) (d : Option Nat) {v : V} {x : Value} (hd : ∀ i, d = some i → i < N) (hv : V.rep w I v x) : ΓA N (upd σ d v) (a.put d x) w I := by
  cases d with
  | none => exact ⟨h.size, h.defers, fun i => by simpa [upd, Act.put] using h.tmps i⟩
  | some d =>
    refine ⟨by simpa [Act.put] using h.size, h.defers, fun i => ?_⟩
    have hlt : d < a.tmps.size := by rw [h.size]; exact hd d rfl
    by_cases hi : d = i
    · subst hi; simp only [upd, if_true, Act.put, Array.getD_eq_getD_getElem?, Array.getElem?_setIfInBounds_self_of_lt hlt, Option.getD_some]; exact hv
    · have : (a.tmps.setIfInBounds d x).getD i undef = a.tmps.getD i undef := by simp [Array.getElem?_setIfInBounds_ne hi]
      simp only [upd, Option.some.injEq, hi, if_false, Act.put, this]
      exact h.tmps i

theorem ΓA.weaken {N σ σ' a w I} (h : ΓA N σ a w I) (hs : ∀ i, σ' i = σ i ∨ σ' i = .any) : ΓA N σ' a w I :=
  ⟨h.size, h.defers, fun i => by rcases hs i with e | e <;> rw [e] <;> first | exact h.tmps i | (simp only [V.rep])⟩

/-! ### The heap under the steps that the world takes -/

theorem BoxAt.mono {w I w' I' b cs} (h : BoxAt w I b cs) (hs : Stays w I w' I') (hb : w'.heap[b]? = w.heap[b]?) (hI : ∀ o, I' b o → I b o) : BoxAt w' I' b cs := by
  cases cs with
  | c cs =>
    obtain ⟨arr, e, h1, h2, h3, h4⟩ := h
    exact ⟨arr, e, by rw [hb]; exact h1, h2, V.reps_mono hs _ _ h3, fun o hi => h4 o (hI o hi)⟩
  | m ks es clock =>
    obtain ⟨arr, h1, h2, h4, h5⟩ := h
    exact ⟨arr, by rw [hb]; exact h1, h2, V.reps_mono hs _ _ h4, fun o hi => h5 o (hI o hi)⟩
  | it mb since seen last => exact ⟨by rw [hb]; exact h.1, fun o hi => h.2 o (hI o hi)⟩

theorem RowAt.mono {w I w' I' r} (h : RowAt w I r) (hb : ∀ g, r.x.ownBlock = some g → w'.heap[g]? = w.heap[g]?) (hI : ∀ g, r.x.ownBlock = some g → ∀ o, I' g o → I g o) : RowAt w' I' r := by
  obtain ⟨h0, ⟨te, xs, h1, h2⟩, h3⟩ := h
  refine ⟨h0, ⟨te, xs, h1, ?_⟩, fun g hg o ho hi => h3 g hg o ho (hI g hg o hi)⟩
  rcases h2 with h2 | ⟨g, cap, cur, e1, e2, e3, e4⟩
  · exact .inl h2
  · exact .inr ⟨g, cap, cur, e1, e2, by rw [hb g (by rw [e1]; rfl)]; exact e3, e4⟩

theorem BoxAt.lt {w I b cs} (h : BoxAt w I b cs) : b < w.heap.size := by
  cases cs with
  | c cs => obtain ⟨arr, e, h1, _⟩ := h; exact (Array.getElem?_eq_some_iff.1 h1).1
  | m ks es clock => obtain ⟨arr, h1, _⟩ := h; exact (Array.getElem?_eq_some_iff.1 h1).1
  | it mb since seen last => exact (Array.getElem?_eq_some_iff.1 h.1).1

theorem BoxAt.out {w I b x} (h : BoxAt w I b x) : ∀ o, ¬ I b o := by
  cases x with
  | c cs => obtain ⟨arr, e, _, _, _, h4⟩ := h; exact h4
  | m ks es clock => obtain ⟨arr, _, _, _, h5⟩ := h; exact h5
  | it mb since seen last => exact h.2

theorem RowAt.lt {w I r} (h : RowAt w I r) : ∀ g, r.x.ownBlock = some g → g < w.heap.size := by
  obtain ⟨_, ⟨_, xs, h1⟩, _⟩ := h
  exact fun g hg => (h1.lt g hg).2

theorem Heap.lt {w I boxes rows} (h : Heap w I boxes rows) : ∀ b ∈ blks boxes rows, b < w.heap.size := by
  intro b hb
  simp only [blks, List.mem_append, List.mem_map, List.mem_filterMap] at hb
  rcases hb with ⟨p, hp, rfl⟩ | ⟨r, hr, e⟩
  · exact (h.bx p hp).lt
  · exact (h.rw r hr).lt b e

/-- A step that turns none of the boxes and rows, keeps I's cells, and brings cells into I in new blocks alone. -/
theorem Heap.step {w I boxes rows w' I'} (h : Heap w I boxes rows) (hs : Stays w I w' I') (hb : ∀ b ∈ blks boxes rows, w'.heap[b]? = w.heap[b]?) (hI : ∀ b ∈ blks boxes rows, ∀ o, I' b o → I b o)
    (hin : ∀ b o, I' b o → b < w'.heap.size) : Heap w' I' boxes rows := by
  have m1 : ∀ p ∈ boxes, p.1 ∈ blks boxes rows := fun p hp => List.mem_append.2 (.inl (List.mem_map.2 ⟨p, hp, rfl⟩))
  have m2 : ∀ r ∈ rows, ∀ g, r.x.ownBlock = some g → g ∈ blks boxes rows := fun r hr g hg => List.mem_append.2 (.inr (List.mem_filterMap.2 ⟨r, hr, hg⟩))
  exact ⟨fun p hp => (h.bx p hp).mono hs (hb _ (m1 p hp)) (fun o => hI _ (m1 p hp) o),
    fun r hr => (h.rw r hr).mono (fun g hg => hb g (m2 r hr g hg)) (fun g hg o => hI g (m2 r hr g hg) o), h.nodup, hin⟩

/-- What a quiet step (a draw, a call that hands nothing over) leaves. -/
theorem ΓW.quiet {C S w I w' I'} (h : ΓW C S w I) (F : Nat → Prop) (hF : ∀ b, b < w.heap.size → F b) (k : Keeps F w I w' I') (hin : ∀ b o, I' b o → b < w'.heap.size) : ΓW C S w' I' :=
  ⟨h.heap.step k.stays (fun b hb => k.block b (hF b (h.heap.lt b hb))) (fun b hb o => k.old b o (hF b (h.heap.lt b hb))) hin, h.mine,
   h.keeps.trans (k.mono fun b hb => hF b (Nat.lt_of_lt_of_le (h.lo b hb) h.keeps.size)), h.lo⟩

theorem Keeps.drew (F : Nat → Prop) (w : World) (I : Cells) : Keeps F w I w.drew I := ⟨rfl, rfl, rfl, Nat.le_refl _, fun _ _ => rfl, fun _ _ h => ⟨h, rfl⟩, fun _ _ _ h => h, Nat.le_succ _⟩

/-- A new block, the cells J of which are brought into I. -/
theorem Keeps.alloc {w : World} {I : Cells} (o : Obj) (J : Nat → Prop) (hin : ∀ b o, I b o → b < w.heap.size) :
    Keeps (fun b => b < w.heap.size) w I (w.alloc o) (fun b i => I b i ∨ (b = w.heap.size ∧ J i)) := by
  refine ⟨rfl, rfl, rfl, by simp, fun b hb => Below.heap_alloc w o b hb, fun b i hi => ⟨.inl hi, ?_⟩, fun b i hb hi => ?_, Nat.le_refl _⟩
  · exact World.cell?_alloc_past o b i (hin b i hi)
  · rcases hi with hi | ⟨rfl, _⟩
    · exact hi
    · omega

theorem heap_new (w : World) (o : Obj) : (w.alloc o).heap[w.heap.size]? = some o := by
  show (w.heap.push o)[w.heap.size]? = _
  simp

end Go.VL

/- The V logic, part 3: what one operation that only reads comes to: 'detF C S o k' says that it yields some abstract value of which k holds, whatever the world is. -/
namespace Go.VL
open Go.RowKit

def tsz (P : Program) (t : TypeId) : Option Nat := (P.info? t).map (·.size)
def tby (P : Program) (t : TypeId) : Option Nat := (P.info? t).map (·.bytes)
def tzr (P : Program) (t : TypeId) : Option (List Value) := (P.info? t).bind fun i => i.zero.map fun z => z.cells.toList
def tag (P : Program) (t : TypeId) : Option Bool :=
  match P.underlying t with
  | some (.struct _) => some true
  | some (.array _ _) => some true
  | some _ => some false
  | none => none

section
variable {P : Program} {w : World} {t : TypeId}
theorem run_tsz {n : Nat} (h : tsz P t = some n) : (sizeOf t).run P w = .ok n w := by
  unfold tsz at h
  cases hi : P.info? t with
  | none => simp [hi] at h
  | some i => simp [hi] at h; simp [sizeOf, typeInfo, hi, h]
theorem run_tag {b : Bool} (h : tag P t = some b) : (isAgg t).run P w = .ok b w := by
  unfold tag at h
  cases hd : P.underlying t with
  | none => simp [hd] at h
  | some d => cases d <;> simp [hd] at h <;> simp [isAgg, run_underlying hd, h]
theorem run_tzr {z : List Value} (h : tzr P t = some z) : ∃ v, (zeroValue t).run P w = .ok v w ∧ v.cells.toList = z := by
  unfold tzr at h
  cases hi : P.info? t with
  | none => simp [hi] at h
  | some i =>
    cases hz : i.zero with
    | none => simp [hi, hz] at h
    | some v => simp [hi, hz] at h; exact ⟨v, by simp [zeroValue, typeInfo, hi, hz], h⟩
end

/-- The contract of a function: given abstract arguments and the boxes that are handed over, whatever the world is, it returns. -/
def Ok (P : Program) (f : FuncId) (args : List V) (bs : List (Nat × B)) (Q : V → List (Nat × B) → List Row → Prop) : Prop :=
  ∀ w I xs, V.reps w I args xs → Heap w I bs [] →
    Calls P f xs.toArray w fun e w' => ∃ x v bs' rs' I', e = .returned x ∧ V.rep w' I' v x ∧ Keeps (fun b => b < w.heap.size ∧ b ∉ bs.map (·.1)) w I w' I' ∧
      Heap w' I' bs' rs' ∧ (∀ b ∈ blks bs' rs', ¬ (b < w.heap.size ∧ b ∉ bs.map (·.1))) ∧ Q v bs' rs'

/-- What an operation that hands no memory over must come to. -/
def Yld (C : Ctx) (S : St) (w : World) (I : Cells) (v : V) : Result Next → Prop
  | .ok (.value x) w' => ∃ I', ΓW C S w' I' ∧ Stays w I w' I' ∧ V.rep w' I' v x
  | .ok .skip w' => ∃ I', ΓW C S w' I' ∧ Stays w I w' I' ∧ V.rep w' I' v undef
  | .ok (.enter f args) w' => w' = w ∧ Calls C.P f args w fun e w'' => ∃ x I', e = .returned x ∧ ΓW C S w'' I' ∧ Stays w I w'' I' ∧ V.rep w'' I' v x
  | _ => False

/-- The slots that an operation reads. -/
def Oper.tm (o : Oper) : List Tmp := o.op.operands.toList.filterMap fun | .tmp t => some t | _ => none

def Reads (σ : Nat → V) (l : List Tmp) (a : Act) (w : World) (I : Cells) : Prop := ∀ t ∈ l, V.rep w I (σ t) (a.tmps.getD t undef)

def DetOp (C : Ctx) (S : St) (o : Oper) (v : V) : Prop :=
  ∀ a w I, Reads S.σ (Oper.tm o) a w I → ΓW C S w I → Yld C S w I v ((execOp a.eval o).run C.P w)

def ev (σ : Nat → V) : Operand → V
  | .tmp t => σ t
  | .const v => .lit v
  | .global g => .lit (.pointer (some ⟨g, 0, none⟩))
  | .func f => .lit (.func (.func f) #[] #[])

theorem ev_rep {σ : Nat → V} {l : List Tmp} {a : Act} {w : World} {I : Cells} (h : Reads σ l a w I) {x : Operand} (hx : ∀ t, x = .tmp t → t ∈ l) : V.rep w I (ev σ x) (a.eval x) := by
  cases x with
  | tmp t => exact h t (hx t rfl)
  | const v => simp only [ev, V.rep, Act.eval]
  | global g => simp only [ev, V.rep, Act.eval]
  | func f => simp only [ev, V.rep, Act.eval]

theorem mem_tm {o : Oper} {x : Operand} (hx : x ∈ o.op.operands) : ∀ t, x = .tmp t → t ∈ Oper.tm o := fun t e => by
  subst e
  exact List.mem_filterMap.2 ⟨.tmp t, by simpa using hx, rfl⟩

theorem ev_of {S : St} {o : Oper} {a : Act} {w : World} {I : Cells} (h : Reads S.σ (Oper.tm o) a w I) {x : Operand} (hx : x ∈ o.op.operands) : V.rep w I (ev S.σ x) (a.eval x) :=
  ev_rep h (mem_tm hx)

/-- Yields a value and leaves the world alone. -/
theorem Yld.same {C S w I v x} (hW : ΓW C S w I) (hv : V.rep w I v x) : Yld C S w I v (.ok (.value x) w) := ⟨I, hW, Stays.refl _ _, hv⟩

/-! ### Cells that are read -/

/-- From ⟨b, o⟩ on lie cells that represent cs. -/
def Has (w : World) (I : Cells) (cs : List V) (b o : Nat) : Prop := ∀ j v, cs[j]? = some v → ∃ x, w.cell? ⟨b, o + j, none⟩ = some x ∧ V.rep w I v x

theorem Has.of_ats {w I cs b o} (h : V.ats w I cs b o) : Has w I cs b o := fun j v hv => by
  obtain ⟨x, h1, _, _, h2⟩ := ats_cell h j v hv
  exact ⟨x, h1, h2⟩

theorem Has.of_box {w I b cs} (h : BoxAt w I b (.c cs)) : Has w I cs b 0 := fun j v hv => by
  obtain ⟨arr, e, h1, _, h3, _⟩ := h
  have hl := reps_length h3
  have hj : j < arr.toList.length := by rw [hl]; exact (List.getElem?_eq_some_iff.1 hv).1
  obtain ⟨v', e1, e2⟩ := reps_get h3 j _ (List.getElem?_eq_getElem hj)
  rw [e1] at hv
  obtain rfl := Option.some.inj hv
  exact ⟨_, by simp [World.cell?, h1], e2⟩

theorem Has.drop {w I cs b o} (h : Has w I cs b o) (n : Nat) : Has w I (cs.drop n) b (o + n) := fun j v hv => by
  have := h (n + j) v (by simpa [List.getElem?_drop] using hv)
  rwa [show o + (n + j) = o + n + j from by omega] at this

/-- Loading a variable of type t out of cells that represent cs. -/
def loadK (P : Program) (t : TypeId) (cs : List V) (k : V → Prop) : Prop :=
  match tag P t, tsz P t with
  | some true, some n => n ≤ cs.length ∧ k (.agg (cs.take n))
  | some false, some _ => match cs with
    | c :: _ => k c
    | [] => False
  | _, _ => False

theorem reps_of_list {w : World} {I : Cells} : ∀ {vs : List V} {xs : List Value}, xs.length = vs.length → (∀ (j : Nat) (v : V) (x : Value), vs[j]? = some v → xs[j]? = some x → V.rep w I v x) → V.reps w I vs xs
  | [], [], _, _ => by simp only [V.reps]
  | v :: vs, x :: xs, hl, h => by
    simp only [V.reps]
    exact ⟨h 0 v x rfl rfl, reps_of_list (by simpa using hl) fun j v' x' h1 h2 => h (j + 1) v' x' (by simpa using h1) (by simpa using h2)⟩
  | [], _ :: _, hl, _ => by simp at hl
  | _ :: _, [], hl, _ => by simp at hl

theorem loadK_spec {P : Program} {t : TypeId} {cs : List V} {k : V → Prop} (h : loadK P t cs k) :
    ∃ v, k v ∧ ∀ w I b o, Has w I cs b o → ∃ x, (loadVar t ⟨b, o, none⟩).run P w = .ok x w ∧ V.rep w I v x := by
  unfold loadK at h
  split at h
  · rename_i n h1 h2
    refine ⟨_, h.2, fun w I b o hh => ?_⟩
    have key : ∀ j, j < n → ∃ x, w.cell? ⟨b, o + j, none⟩ = some x ∧ V.rep w I (cs.getD j .any) x := fun j hj => by
      have hl : j < cs.length := Nat.lt_of_lt_of_le hj h.1
      have := hh j cs[j] (List.getElem?_eq_getElem hl)
      simpa [List.getD, List.getElem?_eq_getElem hl] using this
    have hf : ∃ f : Nat → Value, ∀ j, j < n → w.cell? ⟨b, o + j, none⟩ = some (f j) ∧ V.rep w I (cs.getD j .any) (f j) :=
      ⟨fun j => if hj : j < n then (key j hj).choose else undef, fun j hj => by simp only [hj, dif_pos]; exact (key j hj).choose_spec⟩
    obtain ⟨f, hf⟩ := hf
    refine ⟨.agg ((List.range n).map f).toArray, ?_, ?_⟩
    · have := run_loadCells (P := P) w ⟨b, o, none⟩ n f (fun j hj => by rw [Addr.add_lit]; exact (hf j hj).1)
      simp [loadVar, run_tag h1, run_tsz h2, this]
    · simp only [V.rep]
      refine ⟨_, rfl, reps_of_list (by simp [Nat.min_eq_left h.1]) fun j v x hv hx => ?_⟩
      rw [List.getElem?_take] at hv
      split at hv
      · rename_i hj
        have hx' : f j = x := by simpa [List.getElem?_map, List.getElem?_range hj] using hx
        rw [← hx']
        have := (hf j hj).2
        simpa [List.getD, hv] using this
      · cases hv
  · rename_i h1 h2
    cases cs with
    | nil => exact h.elim
    | cons c cs =>
      refine ⟨c, h, fun w I b o hh => ?_⟩
      obtain ⟨x, e1, e2⟩ := hh 0 c rfl
      exact ⟨x, by simp only [Nat.add_zero] at e1; simp [loadVar, run_tag h1, e1], e2⟩
  · exact h.elim

/-- The box of a block. -/
def getB : List (Nat × B) → Nat → Option (List V)
  | [], _ => none
  | (b, .c cs) :: r, x => if x = b then some cs else getB r x
  | (b, _) :: r, x => if x = b then none else getB r x

theorem getB_mem : ∀ {bs : List (Nat × B)} {x : Nat} {cs : List V}, getB bs x = some cs → (x, .c cs) ∈ bs
  | (b, .c c) :: r, x, cs, h => by
    unfold getB at h
    split at h
    · rename_i e; subst e; obtain rfl := Option.some.inj h; exact List.mem_cons_self
    · exact List.mem_cons_of_mem _ (getB_mem h)
  | (b, .m _ _ _) :: r, x, cs, h => by
    unfold getB at h
    split at h
    · cases h
    · exact List.mem_cons_of_mem _ (getB_mem h)
  | (b, .it _ _ _ _) :: r, x, cs, h => by
    unfold getB at h
    split at h
    · cases h
    · exact List.mem_cons_of_mem _ (getB_mem h)

/-- What lies at a pointer. -/
def atP (S : St) (p : V) (k : List V → Prop) : Prop :=
  match p with
  | .ref cs => k cs
  | .lit (.pointer (some ⟨b, o, none⟩)) => match getB S.boxes b with
    | some cs => k (cs.drop o)
    | none => False
  | _ => False

theorem atP_spec {C : Ctx} {S : St} {p : V} {k : List V → Prop} (h : atP S p k) :
    ∃ cs, k cs ∧ ∀ w I x, ΓW C S w I → V.rep w I p x → ∃ b o, x = .pointer (some ⟨b, o, none⟩) ∧ Has w I cs b o := by
  unfold atP at h
  split at h
  · rename_i cs
    refine ⟨cs, h, fun w I x _ hx => ?_⟩
    simp only [V.rep] at hx
    obtain ⟨b, o, rfl, h2⟩ := hx
    exact ⟨b, o, rfl, Has.of_ats h2⟩
  · rename_i b o
    split at h
    · rename_i cs hb
      refine ⟨_, h, fun w I x hW hx => ?_⟩
      simp only [V.rep] at hx
      have := (Has.of_box (hW.heap.bx _ (getB_mem hb))).drop o
      simp only [Nat.zero_add] at this
      exact ⟨b, o, hx, this⟩
    · exact h.elim
  · exact h.elim

/-- The elements of a slice. -/
def onL (v : V) (k : Nat) (K : List (List V) → Prop) : Prop :=
  match v with
  | .list _ k' es => k' = k ∧ K es
  | .lit (.slice none 0 0) => K []
  | _ => False

theorem onL_spec {v : V} {k : Nat} {K : List (List V) → Prop} (h : onL v k K) :
    ∃ es, K es ∧ ∀ w I x, V.rep w I v x → ∃ a c, x = .slice a es.length c ∧ es.length ≤ c ∧ (es = [] ∨ ∃ b o, a = some ⟨b, o, none⟩ ∧ V.lies w I k es b o) := by
  unfold onL at h
  split at h
  · rename_i own k' es
    obtain ⟨rfl, h⟩ := h
    refine ⟨es, h, fun w I x hx => ?_⟩
    simp only [V.rep] at hx
    obtain ⟨_, a, c, h1, h2, h3⟩ := hx
    exact ⟨a, c, h1, h2, h3⟩
  · refine ⟨[], h, fun w I x hx => ?_⟩
    simp only [V.rep] at hx
    exact ⟨none, 0, hx, Nat.le_refl _, .inl rfl⟩
  · exact h.elim

end Go.VL

/- The V logic, part 4: the operations that only read, one by one, and their law. -/
namespace Go.VL
open Go.RowKit

/-- Two scalars under an operator. -/
def sbin : BinOp → Value → Value → Option Value
  | .add, .int k a, .int k' b => if k = k' then some (.int k (k.wrap (a + b))) else none
  | .sub, .int k a, .int k' b => if k = k' then some (.int k (k.wrap (a - b))) else none
  | .mul, .int k a, .int k' b => if k = k' then some (.int k (k.wrap (a * b))) else none
  | .quo, .int k a, .int k' b => if k = k' ∧ b ≠ 0 then some (.int k (k.wrap (a.tdiv b))) else none
  | .rem, .int k a, .int k' b => if k = k' ∧ b ≠ 0 then some (.int k (a.tmod b)) else none
  | .eql, .int k a, .int k' b => if k = k' then some (.bool (decide (a = b))) else none
  | .neq, .int k a, .int k' b => if k = k' then some (.bool (!decide (a = b))) else none
  | .lss, .int k a, .int k' b => if k = k' then some (.bool (decide (a < b))) else none
  | .leq, .int k a, .int k' b => if k = k' then some (.bool (decide (a ≤ b))) else none
  | .gtr, .int k a, .int k' b => if k = k' then some (.bool (decide (b < a))) else none
  | .geq, .int k a, .int k' b => if k = k' then some (.bool (decide (b ≤ a))) else none
  | .and, .int k a, .int k' b => if k = k' then some (.int k (k.wrap (BitVec.ofInt k.bits a &&& BitVec.ofInt k.bits b).toNat)) else none
  | .or, .int k a, .int k' b => if k = k' then some (.int k (k.wrap (BitVec.ofInt k.bits a ||| BitVec.ofInt k.bits b).toNat)) else none
  | .xor, .int k a, .int k' b => if k = k' then some (.int k (k.wrap (BitVec.ofInt k.bits a ^^^ BitVec.ofInt k.bits b).toNat)) else none
  | .shl, .int k a, .int _ b => if 0 ≤ b then some (.int k (k.wrap (a * 2 ^ min b.toNat k.bits))) else none
  | .shr, .int k a, .int _ b => if 0 ≤ b then some (.int k (a.fdiv (2 ^ min b.toNat k.bits))) else none
  | .eql, .string a, .string b => some (.bool (decide (a = b)))
  | .neq, .string a, .string b => some (.bool (!decide (a = b)))
  | .lss, .string a, .string b => some (.bool (Op.bytesLess a.data.toList b.data.toList))
  | .leq, .string a, .string b => some (.bool (Op.bytesLess a.data.toList b.data.toList || decide (a = b)))
  | .gtr, .string a, .string b => some (.bool (!(Op.bytesLess a.data.toList b.data.toList || decide (a = b))))
  | .geq, .string a, .string b => some (.bool (!Op.bytesLess a.data.toList b.data.toList))
  | .add, .string a, .string b => if a.size + b.size ≤ 9223372036854775807 then some (.string (a ++ b)) else none
  | _, _, _ => none

theorem str_beq (a b : ByteArray) : (a.toList == b.toList) = decide (a = b) := by
  rw [ByteArray.toList_eq, ByteArray.toList_eq, Bool.eq_iff_iff]
  simp only [beq_iff_eq, decide_eq_true_eq]
  constructor
  · intro h; exact ByteArray.ext (Array.ext' h)
  · rintro rfl; rfl

theorem str_less (a b : ByteArray) : Op.bytesLess a.toList b.toList = Op.bytesLess a.data.toList b.data.toList := by rw [ByteArray.toList_eq, ByteArray.toList_eq]

set_option linter.unusedSimpArgs false in
theorem sbin_spec {op : BinOp} {t : TypeId} {x y : Operand} {a b v : Value} {P : Program} (h : sbin op a b = some v) (w : World) :
    (do eqGuard op t x y a b; binOp op t a b : Sem Value).run P w = .ok v w := by
  unfold sbin at h
  split at h <;> first
    | (split at h <;> first
        | (rename_i hk; first
            | (obtain ⟨rfl, hb⟩ := hk; obtain rfl := Option.some.inj h; simp [eqGuard, binOp, Op.intDiv, hb]; done)
            | (subst hk; obtain rfl := Option.some.inj h; simp [eqGuard, binOp, Op.intArith, Op.intCmp, Op.intBits, bne]; try (first | rfl | done))
            | (obtain rfl := Option.some.inj h; simp [eqGuard, binOp, Op.shift, Int.not_lt.2 hk]; done)
            | (obtain rfl := Option.some.inj h; simp [eqGuard, binOp, Op.stringOp]; omega))
        | cases h)
    | (obtain rfl := Option.some.inj h; simp [eqGuard, binOp, Op.stringOp, str_beq, str_less]; done)
    | cases h

def sun : UnOp → Value → Option Value
  | .neg, .int k a => some (.int k (k.wrap (0 - a)))
  | .not, .bool b => some (.bool (!b))
  | _, _ => none

theorem sun_spec {op : UnOp} {a v : Value} {P : Program} (h : sun op a = some v) (w : World) : (Op.unary op a).run P w = .ok v w := by
  unfold sun at h
  split at h <;> first
    | (obtain rfl := Option.some.inj h; simp [Op.unary, Op.intArith]; done)
    | cases h

/-- The very values of a row of cells, where they are known. -/
def vals : List V → Option (List Value)
  | [] => some []
  | .lit v :: r => (vals r).map (v :: ·)
  | _ :: _ => none

theorem vals_spec {w : World} {I : Cells} : ∀ {vs : List V} {l xs : List Value}, vals vs = some l → V.reps w I vs xs → xs = l
  | [], l, xs, h, hr => by
    cases xs with
    | nil => simpa [vals] using h
    | cons x xs => simp [V.reps] at hr
  | .lit v :: r, l, xs, h, hr => by
    cases xs with
    | nil => simp [V.reps] at hr
    | cons x xs =>
      simp only [V.reps, V.rep] at hr
      cases hv : vals r with
      | none => simp [vals, hv] at h
      | some l' =>
        simp [vals, hv] at h
        rw [← h, hr.1, vals_spec hv hr.2]
  | .any :: _, _, _, h, _ => by simp [vals] at h
  | .agg _ :: _, _, _, h, _ => by simp [vals] at h
  | .list _ _ _ :: _, _, _, h, _ => by simp [vals] at h
  | .ref _ :: _, _, _, h, _ => by simp [vals] at h
  | .tup _ :: _, _, _, h, _ => by simp [vals] at h

/-- '==' on two structs or arrays of scalars: what the model's own comparison says. -/
def EqAgg (P : Program) (op : BinOp) (t : TypeId) (xs ys : List Value) (b : Bool) : Prop :=
  ∀ x y w, (do eqGuard op t x y (.agg xs.toArray) (.agg ys.toArray); binOp op t (.agg xs.toArray) (.agg ys.toArray) : Sem Value).run P w = .ok (.bool b) w

/-- A slice beside nil. -/
def nilB (op : BinOp) (b : Bool) : Option Bool := match op with | .eql => some b | .neq => some (!b) | _ => none
def nilQ (P : Program) (op : BinOp) (t : TypeId) (b : Bool) (k : V → Prop) : Prop :=
  ∃ e v, P.underlying t = some (.slice e) ∧ nilB op b = some v ∧ k (.lit (.bool v))
theorem nilQ_run {P : Program} {op : BinOp} {t e : TypeId} {x y : Operand} {p : Option Addr} {n c : Nat} {v : Bool} (hu : P.underlying t = some (.slice e)) (h : nilB op p.isNone = some v) (w : World) :
    (do eqGuard op t x y (.slice p n c) (.slice none 0 0); binOp op t (.slice p n c) (.slice none 0 0) : Sem Value).run P w = .ok (.bool v) w := by
  have hq := run_equal_slice_nil (P := P) w t e p n c hu
  cases op with
  | eql => obtain rfl := Option.some.inj h; simp [eqGuard, binOp, hq]
  | neq => obtain rfl := Option.some.inj h; simp [eqGuard, binOp, hq]
  | _ => cases h

/-- A slice value that is not nil. -/
def notNil : Option Value → Bool
  | some (.slice (some _) _ _) => true
  | _ => false
def binK (P : Program) (op : BinOp) (t : TypeId) (x y : V) (k : V → Prop) : Prop :=
  match x, y with
  | .lit (.slice p _ _), .lit (.slice none 0 0) => nilQ P op t p.isNone k
  | .list o _ es, .lit (.slice none 0 0) => (es ≠ [] ∨ notNil o = true) ∧ nilQ P op t false k
  | .lit a, .lit b => ∃ v, sbin op a b = some v ∧ k (.lit v)
  | .agg xs, .agg ys => ∃ l m b, vals xs = some l ∧ vals ys = some m ∧ EqAgg P op t l m b ∧ k (.lit (.bool b))
  | _, _ => False

theorem binK_spec {C : Ctx} {S : St} {o : Oper} {op : BinOp} {t t' : TypeId} {x y : Operand} (ho : o.op = .binOp op t x y t') {k : V → Prop}
    (h : binK C.P op t (ev S.σ x) (ev S.σ y) k) : ∃ v, DetOp C S o v ∧ k v := by
  unfold binK at h
  split at h
  · rename_i p n c h1 h2
    obtain ⟨e, v, hu, hv, hk⟩ := h
    refine ⟨_, fun ac w I hR hW => ?_, hk⟩
    have r1 := ev_of hR (x := x) (by simp [ho, Op.operands])
    have r2 := ev_of hR (x := y) (by simp [ho, Op.operands])
    rw [h1] at r1; rw [h2] at r2
    simp only [V.rep] at r1 r2
    simp only [execOp, ho, r1, r2]
    rw [Sem.run_bind, nilQ_run hu hv w]
    exact Yld.same hW (by simp only [V.rep])
  · rename_i own kk es h1 h2
    obtain ⟨hne, e, v, hu, hv, hk⟩ := h
    refine ⟨_, fun ac w I hR hW => ?_, hk⟩
    have r1 := ev_of hR (x := x) (by simp [ho, Op.operands])
    have r2 := ev_of hR (x := y) (by simp [ho, Op.operands])
    rw [h1] at r1; rw [h2] at r2
    simp only [V.rep] at r1 r2
    obtain ⟨hown, a, c, hx, _, hl⟩ := r1
    obtain ⟨p, rfl⟩ : ∃ p, a = some p := by
      rcases hne with hne | hn
      · obtain ⟨b, o', rfl, _⟩ := hl.resolve_left hne
        exact ⟨_, rfl⟩
      · unfold notNil at hn
        split at hn
        · have := hown _ rfl
          rw [hx] at this
          injection this with h1
          exact ⟨_, h1⟩
        · cases hn
    simp only [execOp, ho, hx, r2]
    rw [Sem.run_bind, nilQ_run hu (p := some p) hv w]
    exact Yld.same hW (by simp only [V.rep])
  · rename_i a b _ h1 h2
    obtain ⟨v, hv, hk⟩ := h
    refine ⟨_, fun ac w I hR hW => ?_, hk⟩
    have r1 := ev_of hR (x := x) (by simp [ho, Op.operands])
    have r2 := ev_of hR (x := y) (by simp [ho, Op.operands])
    rw [h1] at r1; rw [h2] at r2
    simp only [V.rep] at r1 r2
    have hrun := sbin_spec (P := C.P) (t := t) (x := x) (y := y) hv w
    simp only [execOp, ho, r1, r2]
    rw [Sem.run_bind, hrun]
    exact Yld.same hW (by simp only [V.rep])
  · rename_i xs ys h1 h2
    obtain ⟨l, m, b, e1, e2, he, hk⟩ := h
    refine ⟨_, fun ac w I hR hW => ?_, hk⟩
    have r1 := ev_of hR (x := x) (by simp [ho, Op.operands])
    have r2 := ev_of hR (x := y) (by simp [ho, Op.operands])
    rw [h1] at r1; rw [h2] at r2
    simp only [V.rep] at r1 r2
    obtain ⟨A, hA, hA'⟩ := r1
    obtain ⟨B, hB, hB'⟩ := r2
    have eA := vals_spec e1 hA'
    have eB := vals_spec e2 hB'
    have hrun := he x y w
    rw [← eA, ← eB] at hrun
    simp only [Array.toArray_toList] at hrun
    simp only [execOp, ho, hA, hB]
    rw [Sem.run_bind, hrun]
    exact Yld.same hW (by simp only [V.rep])
  · exact h.elim

/-- A part of a struct or of an array. -/
def partK (P : Program) (t : TypeId) (cs : List V) (off : Nat) (k : V → Prop) : Prop :=
  match tag P t, tsz P t with
  | some true, some n => k (.agg ((cs.drop off).take n))
  | some false, some _ => match cs.drop off with
    | c :: _ => k c
    | [] => False
  | _, _ => False

theorem reps_drop {w : World} {I : Cells} : ∀ (n : Nat) {vs : List V} {xs : List Value}, V.reps w I vs xs → V.reps w I (vs.drop n) (xs.drop n)
  | 0, _, _, h => h
  | n + 1, [], xs, h => by cases xs with
    | nil => simpa using h
    | cons => simp [V.reps] at h
  | n + 1, v :: vs, xs, h => by cases xs with
    | nil => simp [V.reps] at h
    | cons x xs => simp only [V.reps] at h; simpa using reps_drop n h.2
theorem reps_take {w : World} {I : Cells} : ∀ (n : Nat) {vs : List V} {xs : List Value}, V.reps w I vs xs → V.reps w I (vs.take n) (xs.take n)
  | 0, _, _, _ => by simp [V.reps]
  | n + 1, [], xs, h => by cases xs with
    | nil => simp [V.reps]
    | cons => simp [V.reps] at h
  | n + 1, v :: vs, xs, h => by cases xs with
    | nil => simp [V.reps] at h
    | cons x xs => simp only [V.reps] at h; simp only [List.take_succ_cons, V.reps]; exact ⟨h.1, reps_take n h.2⟩

theorem partK_spec {P : Program} {t : TypeId} {cs : List V} {off : Nat} {k : V → Prop} (h : partK P t cs off k) :
    ∃ v, k v ∧ ∀ w I (xs : Array Value), V.reps w I cs xs.toList → ∃ x, (part t xs off).run P w = .ok x w ∧ V.rep w I v x := by
  unfold partK at h
  split at h
  · rename_i n h1 h2
    refine ⟨_, h, fun w I xs hx => ⟨.agg (xs.extract off (off + n)), by simp [part, run_tag h1, run_tsz h2], ?_⟩⟩
    simp only [V.rep]
    refine ⟨_, rfl, ?_⟩
    have : (xs.extract off (off + n)).toList = (xs.toList.drop off).take n := by simp [List.extract_eq_take_drop, Nat.add_sub_cancel_left]
    rw [this]
    exact reps_take n (reps_drop off hx)
  · rename_i h1 h2
    split at h
    · rename_i c r hc
      refine ⟨c, h, fun w I xs hx => ?_⟩
      have := reps_drop off hx
      rw [hc] at this
      cases hd : xs.toList.drop off with
      | nil => rw [hd] at this; simp [V.reps] at this
      | cons x r' =>
        rw [hd] at this
        simp only [V.reps] at this
        have hg : xs[off]? = some x := by
          have := congrArg (·[0]?) hd
          simpa [List.getElem?_drop] using this
        exact ⟨x, by simp [part, run_tag h1, hg], this.1⟩
    · exact h.elim
  · exact h.elim

end Go.VL

/- The V logic, part 5: more operations that only read; 'detF' puts them together. -/
namespace Go.VL
open Go.RowKit

def oneB : Value → Bool
  | .agg _ => false
  | .tuple _ => false
  | _ => true

theorem oneB_one {x : Value} (h : oneB x = true) : one x := by cases x <;> simp_all [oneB, one]

/-- The cells that a value takes in memory. -/
def cellsV : V → Option (List V)
  | .any => none
  | .tup _ => none
  | .agg vs => some vs
  | .lit x => if oneB x then some [.lit x] else none
  | .list a k es => some [.list a k es]
  | .ref cs => some [.ref cs]

theorem cells_one {x : Value} (h : oneB x = true) : x.cells = #[x] := by cases x <;> simp_all [oneB, Value.cells]

theorem cellsV_spec {w : World} {I : Cells} {v : V} {cs : List V} {x : Value} (h : cellsV v = some cs) (hx : V.rep w I v x) : V.reps w I cs x.cells.toList := by
  cases v with
  | any => simp [cellsV] at h
  | tup vs => simp [cellsV] at h
  | agg vs =>
    simp only [cellsV, Option.some.injEq] at h
    subst h
    simp only [V.rep] at hx
    obtain ⟨xs, rfl, hx⟩ := hx
    exact hx
  | lit y =>
    simp only [cellsV] at h
    split at h
    · rename_i ho
      obtain rfl := Option.some.inj h
      have hx' := hx
      simp only [V.rep] at hx'
      subst hx'
      rw [cells_one ho]
      simp only [V.reps, V.rep, and_self]
    · cases h
  | list a k es =>
    simp only [cellsV, Option.some.injEq] at h
    subst h
    have : x.cells = #[x] := by
      have hx' := hx
      simp only [V.rep] at hx'
      obtain ⟨_, a, c, rfl, _⟩ := hx'
      rfl
    rw [this]
    simp only [V.reps, and_true]
    exact hx
  | ref cs' =>
    simp only [cellsV, Option.some.injEq] at h
    subst h
    have : x.cells = #[x] := by
      have hx' := hx
      simp only [V.rep] at hx'
      obtain ⟨b, o, rfl, _⟩ := hx'
      rfl
    rw [this]
    simp only [V.reps, and_true]
    exact hx

/-- Where the fields lie. -/
def fplaces (P : Program) : List Field → Option (List (Nat × Nat))
  | [] => some []
  | f :: r => match tsz P f.type, fplaces P r with
    | some n, some l => some ((f.offset, n) :: l)
    | _, _ => none

theorem run_fplaces {P : Program} {w : World} : ∀ {fs : List Field} {l : List (Nat × Nat)}, fplaces P fs = some l →
    (fs.mapM fun f => do pure (f.offset, ← sizeOf f.type) : Sem (List (Nat × Nat))).run P w = .ok l w
  | [], l, h => by simp [fplaces] at h; subst h; simp
  | f :: r, l, h => by
    unfold fplaces at h
    split at h
    · rename_i n l' h1 h2
      obtain rfl := Option.some.inj h
      have ih := run_fplaces (w := w) h2
      simp only [List.mapM_cons, Sem.run_bind, Sem.run_pure, run_tsz h1, Result.andThen_ok, ih]
    · cases h

def placeOf (P : Program) (t : TypeId) (i : Nat) : Option (Nat × Nat) :=
  match P.underlying t with
  | some (.struct fs) => (fplaces P fs.toList).bind fun l => l[i]?
  | some (.array _ e) => (tsz P e).map fun n => (i * n, n)
  | _ => none

/-- The cells with the parts laid in. -/
def fillV (P : Program) (t : TypeId) (cells : List V) : List (Nat × V) → Option (List V)
  | [] => some cells
  | (i, v) :: rest => match placeOf P t i, cellsV v with
    | some (off, n), some cs => if cs.length = n ∧ off + n ≤ cells.length then fillV P t (cells.take off ++ cs ++ cells.drop (off + n)) rest else none
    | _, _ => none

theorem foldl_set (off : Nat) : ∀ (vs : List Value) (k : Nat) (cs : Array Value), off + k + vs.length ≤ cs.size →
    ((vs.zipIdx k).foldl (fun cs (c, j) => cs.setIfInBounds (off + j) c) cs).toList = cs.toList.take (off + k) ++ vs ++ cs.toList.drop (off + k + vs.length)
  | [], k, cs, _ => by simp
  | v :: vs, k, cs, h => by
    rw [List.zipIdx_cons, List.foldl_cons]
    simp only [List.length_cons] at h
    rw [foldl_set off vs (k + 1) (cs.setIfInBounds (off + k) v) (by simpa using by omega)]
    simp only [Array.toList_setIfInBounds, List.length_cons]
    have hlt : off + k < cs.toList.length := by simpa using by omega
    rw [show off + (k + 1) = off + k + 1 from by omega, List.take_add_one, List.getElem?_set_self hlt, List.take_set_of_le (Nat.le_refl _), List.drop_set_of_lt (by omega)]
    simp [show off + k + 1 + vs.length = off + k + (vs.length + 1) from by omega]

theorem reps_append {w : World} {I : Cells} : ∀ {vs us : List V} {xs ys : List Value}, V.reps w I vs xs → V.reps w I us ys → V.reps w I (vs ++ us) (xs ++ ys)
  | [], us, [], ys, _, h => by simpa using h
  | v :: vs, us, x :: xs, ys, h, h' => by
    simp only [V.reps] at h
    simp only [List.cons_append, V.reps]
    exact ⟨h.1, reps_append h.2 h'⟩
  | [], _, _ :: _, _, h, _ => by simp only [V.reps] at h
  | _ :: _, _, [], _, h, _ => by simp only [V.reps] at h

theorem fill_spec {P : Program} {t : TypeId} {w : World} {I : Cells} {place : Nat → Option (Nat × Nat)} (hp : ∀ i p, placeOf P t i = some p → place i = some p) :
    ∀ {parts : List (Nat × V)} {vals : List (Nat × Value)} {cells out : List V} {arr : Array Value}, fillV P t cells parts = some out → V.reps w I cells arr.toList →
      parts.map (·.1) = vals.map (·.1) → V.reps w I (parts.map (·.2)) (vals.map (·.2)) → ∃ arr', Instr.fill place arr vals = some arr' ∧ V.reps w I out arr'.toList
  | [], [], cells, out, arr, h, hr, _, _ => by
    simp only [fillV, Option.some.injEq] at h
    subst h
    exact ⟨arr, rfl, hr⟩
  | (i, v) :: ps, (i', x) :: vs, cells, out, arr, h, hr, hi, hx => by
    simp only [List.map_cons, List.cons.injEq] at hi
    obtain ⟨rfl, hi⟩ := hi
    simp only [List.map_cons, V.reps] at hx
    unfold fillV at h
    split at h
    · rename_i off n cs h1 h2
      split at h
      · rename_i hb
        have hc := cellsV_spec h2 hx.1
        have hl : x.cells.size = n := by have := reps_length hc; simp at this; omega
        have hla : arr.size = cells.length := by have := reps_length hr; simpa using this
        have hset := foldl_set off x.cells.toList 0 arr (by simp; omega)
        have hset2 : ((x.cells.zipIdx).foldl (fun cs (c, j) => cs.setIfInBounds (off + j) c) arr).toList = arr.toList.take off ++ x.cells.toList ++ arr.toList.drop (off + n) := by
          rw [← Array.foldl_toList, Array.toList_zipIdx, hset]
          simp [hl]
        have hr' : V.reps w I (cells.take off ++ cs ++ cells.drop (off + n)) ((x.cells.zipIdx).foldl (fun cs (c, j) => cs.setIfInBounds (off + j) c) arr).toList := by
          rw [hset2]
          exact reps_append (reps_append (reps_take off hr) hc) (reps_drop (off + n) hr)
        obtain ⟨arr', e1, e2⟩ := fill_spec hp h hr' hi hx.2
        refine ⟨arr', ?_, e2⟩
        unfold Instr.fill
        simp only [hp i _ h1]
        rw [if_neg (by simp; omega)]
        exact e1
      · cases h
    · cases h
  | [], _ :: _, _, _, _, _, _, hi, _ => by simp at hi
  | _ :: _, [], _, _, _, _, _, hi, _ => by simp at hi

def buildK (P : Program) (t : TypeId) (parts : List (Nat × V)) (k : V → Prop) : Prop :=
  match tzr P t with
  | some z => ∃ cs, fillV P t (z.map .lit) parts = some cs ∧ k (.agg cs)
  | none => False

theorem reps_lits {w : World} {I : Cells} : ∀ (z : List Value), V.reps w I (z.map .lit) z
  | [] => by simp [V.reps]
  | x :: z => by simp only [List.map_cons, V.reps, V.rep]; exact ⟨trivial, reps_lits z⟩

theorem run_build {P : Program} {t : TypeId} {w : World} {I : Cells} {z : List Value} {parts : List (Nat × V)} {vals : Array (Nat × Value)} {cs : List V}
    (hz : tzr P t = some z) (h : fillV P t (z.map .lit) parts = some cs) (hk : ∃ i, (placeOf P t i).isSome) (hi : parts.map (·.1) = vals.toList.map (·.1)) (hx : V.reps w I (parts.map (·.2)) (vals.toList.map (·.2))) :
    ∃ x, (Instr.build t vals).run P w = .ok x w ∧ V.rep w I (.agg cs) x := by
  obtain ⟨v, hv, hvz⟩ := run_tzr (w := w) hz
  have hr : V.reps w I (z.map .lit) v.cells.toList := by rw [hvz]; exact reps_lits z
  obtain ⟨i0, hk⟩ := hk
  unfold placeOf at hk
  split at hk
  · rename_i fs hd
    cases hl : fplaces P fs.toList with
    | none => simp [hl] at hk
    | some l =>
      have hm : (fs.mapM fun f => do pure (f.offset, ← sizeOf f.type) : Sem (Array (Nat × Nat))).run P w = .ok l.toArray w := by
        have := run_fplaces (w := w) hl
        rw [Array.mapM_eq_mapM_toList]
        simp only [Sem.run_map, this, Result.andThen_ok]
      obtain ⟨arr', e1, e2⟩ := fill_spec (place := (l.toArray[·]?)) (fun i p hp => by simpa [placeOf, hd, hl] using hp) h hr hi hx
      refine ⟨.agg arr', ?_, by simp only [V.rep]; exact ⟨_, rfl, e2⟩⟩
      unfold Instr.build
      simp only [Sem.run_bind, hv, run_underlying hd, Result.andThen_ok, hm, e1, Sem.run_pure]
  · rename_i n e hd
    cases hs : tsz P e with
    | none => simp [hs] at hk
    | some m =>
      obtain ⟨arr', e1, e2⟩ := fill_spec (place := fun i => some (i * m, m)) (fun i p hp => by simpa [placeOf, hd, hs] using hp) h hr hi hx
      refine ⟨.agg arr', ?_, by simp only [V.rep]; exact ⟨_, rfl, e2⟩⟩
      unfold Instr.build
      simp only [Sem.run_bind, hv, run_underlying hd, Result.andThen_ok, run_tsz hs, e1, Sem.run_pure]
  · simp at hk

end Go.VL

/- The V logic, part 6: 'detF' over all operations that only read. -/
namespace Go.VL
open Go.RowKit

theorem ats_drop' {w : World} {I : Cells} {vs : List V} {b o : Nat} (h : V.ats w I vs b o) (n : Nat) : V.ats w I (vs.drop n) b (o + n) := by
  by_cases hn : n ≤ vs.length
  · exact ats_drop h n hn
  · rw [List.drop_eq_nil_of_le (by omega)]; simp only [V.ats]

theorem lies_drop {w : World} {I : Cells} {k : Nat} {es : List (List V)} {b o : Nat} (h : V.lies w I k es b o) (n : Nat) (hn : n ≤ es.length) : V.lies w I k (es.drop n) b (o + n * k) := by
  have := lies_append (w := w) (I := I) (k := k) (es := es.take n) (fs := es.drop n) (b := b) (o := o)
  rw [List.take_append_drop] at this
  have h2 := (this.1 h).2
  rwa [List.length_take, Nat.min_eq_left hn] at h2

theorem lies_take {w : World} {I : Cells} {k : Nat} {es : List (List V)} {b o : Nat} (h : V.lies w I k es b o) (n : Nat) : V.lies w I k (es.take n) b o := by
  have := lies_append (w := w) (I := I) (k := k) (es := es.take n) (fs := es.drop n) (b := b) (o := o)
  rw [List.take_append_drop] at this
  exact (this.1 h).1

/-- A pointer moved on. -/
def shiftP (v : V) (off : Nat) (k : V → Prop) : Prop :=
  match v with
  | .ref cs => k (.ref (cs.drop off))
  | .lit (.pointer (some ⟨b, o, none⟩)) => k (.lit (.pointer (some ⟨b, o + off, none⟩)))
  | _ => False

theorem shiftP_spec {v : V} {off : Nat} {k : V → Prop} (h : shiftP v off k) :
    ∃ u, k u ∧ ∀ w I x, V.rep w I v x → ∃ b o, x = .pointer (some ⟨b, o, none⟩) ∧ V.rep w I u (.pointer (some ⟨b, o + off, none⟩)) := by
  unfold shiftP at h
  split at h
  · refine ⟨_, h, fun w I x hx => ?_⟩
    simp only [V.rep] at hx
    obtain ⟨b, o, rfl, h2⟩ := hx
    refine ⟨b, o, rfl, ?_⟩
    simp only [V.rep]
    exact ⟨b, o + off, rfl, ats_drop' h2 off⟩
  · refine ⟨_, h, fun w I x hx => ?_⟩
    simp only [V.rep] at hx
    subst hx
    exact ⟨_, _, rfl, by simp only [V.rep]⟩
  · exact h.elim

/-- r is represented whereever... what represents r represents v. -/
def Le (r v : V) : Prop := ∀ w I x, V.rep w I r x → V.rep w I v x
theorem Le.refl (v : V) : Le v v := fun _ _ _ h => h
theorem Le.list (a : Option Value) (k : Nat) (es : List (List V)) : Le (.list a k es) (.list none k es) := fun w I x h => by
  simp only [V.rep] at h ⊢
  exact ⟨(fun y hy => nomatch hy), h.2⟩
theorem Le.any (v : V) : Le v .any := fun _ _ _ _ => by simp only [V.rep]

/-- The function has a body that may be entered. -/
def callB (P : Program) (g : FuncId) : Bool :=
  match P.funcs[g]? with
  | some fn => !(fn.name == "runtime.NumGoroutine") && fn.body.isSome
  | none => false

def OkV (P : Program) (g : FuncId) (args : List V) (v : V) : Prop := Ok P g args [] fun r _ _ => Le r v

/-- A bound of a slice expression. -/
def bnd (x : Option V) (d : Nat) (K : Nat → Prop) : Prop :=
  match x with
  | none => K d
  | some (.lit (.int _ j)) => 0 ≤ j ∧ K j.toNat
  | some _ => False

/-- A slice: a list, or (its block, offset, length and capacity) a stretch of a box. -/
def onS (v : V) (n : Nat) (KL : List (List V) → Prop) (KM : Nat → Nat → Nat → Nat → Prop) : Prop :=
  match v with
  | .lit (.slice (some ⟨b, o, none⟩) l c) => KM b o l c
  | v => onL v n KL

theorem onS_spec {v : V} {n : Nat} {KL : List (List V) → Prop} {KM : Nat → Nat → Nat → Nat → Prop} (h : onS v n KL KM) : onL v n KL ∨ ∃ b o l c, v = .lit (.slice (some ⟨b, o, none⟩) l c) ∧ KM b o l c := by
  unfold onS at h
  split at h
  · exact .inr ⟨_, _, _, _, rfl, h⟩
  · exact .inl h

def sliceK (P : Program) (t : TypeId) (v : V) (lo hi mx : Option V) (k : V → Prop) : Prop :=
  match P.underlying t, v with
  | some .string, .lit (.string s) => mx = none ∧ bnd hi s.size fun h => bnd lo 0 fun l => l ≤ h ∧ h ≤ s.size ∧ k (.lit (.string (s.extract l h)))
  | some (.slice e), v => match tsz P e with
    | some n => onS v n (fun es => bnd hi es.length fun h => bnd lo 0 fun l => l ≤ h ∧ h ≤ es.length ∧ (∀ x, mx = some x → hi.isSome ∧ bnd mx 0 fun m => h ≤ m ∧ m ≤ es.length) ∧ k (.list none n ((es.drop l).take (h - l))))
        fun b o ln c => bnd mx c fun m => bnd hi ln fun h => bnd lo 0 fun l => l ≤ h ∧ h ≤ m ∧ m ≤ c ∧ (mx.isSome = true → hi.isSome = true) ∧ k (.lit (.slice (some ⟨b, if m = l then o else o + l * n, none⟩) (h - l) (m - l)))
    | none => False
  | _, _ => False

def lenK (P : Program) (t : TypeId) (v : V) (k : V → Prop) : Prop :=
  match P.underlying t, v with
  | some .string, .lit (.string s) => k (.lit (.int .i64 s.size))
  | some (.slice e), v => match tsz P e with
    | some n => onS v n (fun es => k (.lit (.int .i64 es.length))) fun _ _ l _ => k (.lit (.int .i64 l))
    | none => False
  | _, _ => False

def capK (P : Program) (t : TypeId) (v : V) (k : V → Prop) : Prop :=
  match P.underlying t, v with
  | some (.slice _), .lit (.slice _ _ c) => k (.lit (.int .i64 c))
  | _, _ => False

def convK (P : Program) (src dst : TypeId) (v : V) (k : V → Prop) : Prop :=
  match P.underlying src, P.underlying dst, v with
  | some _, some (.int kk), .lit (.int _ n) => k (.lit (.int kk (kk.wrap n)))
  | some _, some .string, .lit (.string s) => k (.lit (.string s))
  | _, _, _ => False

def idxAddrK (P : Program) (t : TypeId) (v i : V) (k : V → Prop) : Prop :=
  match P.underlying t, i with
  | some (.slice e), .lit (.int _ j) => match tsz P e with
    | some n => onS v n (fun es => 0 ≤ j ∧ j < es.length ∧ k (.ref (es.getD j.toNat []))) fun b o l _ => 0 ≤ j ∧ j < l ∧ k (.lit (.pointer (some ⟨b, o + j.toNat * n, none⟩)))
    | none => False
  | some (.array len e), .lit (.int _ j) => match tsz P e with
    | some n => 0 ≤ j ∧ j < len ∧ shiftP v (j.toNat * n) k
    | none => False
  | _, _ => False

def idxK (P : Program) (t : TypeId) (v i : V) (k : V → Prop) : Prop :=
  match P.underlying t, v, i with
  | some .string, .lit (.string s), .lit (.int _ j) => 0 ≤ j ∧ j < s.size ∧ k (.lit (.int .u8 (s.data.toList.getD j.toNat 0).toNat))
  | some (.array len e), .agg cs, .lit (.int _ j) => match tsz P e with
    | some n => 0 ≤ j ∧ j < len ∧ partK P e cs (j.toNat * n) k
    | none => False
  | _, _, _ => False

/-- A field's place and type. -/
def fld (P : Program) (s : TypeId) (f : Nat) : Option (Nat × TypeId) :=
  match P.underlying s with
  | some (.struct fs) => (fs[f]?).map fun fd => (fd.offset, fd.type)
  | _ => none

theorem fld_spec {P : Program} {s : TypeId} {f off : Nat} {t : TypeId} (h : fld P s f = some (off, t)) : ∃ fs fd, P.underlying s = some (.struct fs) ∧ fs[f]? = some fd ∧ fd.offset = off ∧ fd.type = t := by
  unfold fld at h
  split at h
  · rename_i fs hd
    cases hf : fs[f]? with
    | none => simp [hf] at h
    | some fd => simp [hf] at h; exact ⟨fs, fd, hd, hf, h.1, h.2⟩
  · cases h

def fieldAddrK (P : Program) (s : TypeId) (f : Nat) (v : V) (k : V → Prop) : Prop :=
  match fld P s f with
  | some (off, t) => match tsz P t with
    | some (_ + 1) => shiftP v off k
    | _ => False
  | none => False

def fieldK (P : Program) (s : TypeId) (f : Nat) (v : V) (k : V → Prop) : Prop :=
  match fld P s f, v with
  | some (off, t), .agg cs => partK P t cs off k
  | _, _ => False

def callK (P : Program) (f : V) (args : List V) (k : V → Prop) : Prop :=
  match f with
  | .lit (.func (.func g) first cap) => callB P g = true ∧ ∃ v, OkV P g (first.toList.map .lit ++ args ++ cap.toList.map .lit) v ∧ k v
  | _ => False

def nilK (v : V) (k : V → Prop) : Prop :=
  match v with
  | .lit (.pointer (some a)) => k (.lit (.pointer (some a)))
  | .ref cs => k (.ref cs)
  | .lit (.func (.func g) first cap) => k (.lit (.func (.func g) first cap))
  | _ => False

def detF (P : Program) (S : St) (o : Oper) (k : V → Prop) : Prop :=
  match o.op with
  | .move x => k (ev S.σ x)
  | .assign x => k (ev S.σ x)
  | .pick c a b => match ev S.σ c with
    | .lit (.bool t) => k (if t = true then ev S.σ a else ev S.σ b)
    | _ => False
  | .load t a => atP S (ev S.σ a) fun cs => loadK P t cs k
  | .fieldAddr s x f => fieldAddrK P s f (ev S.σ x) k
  | .field s x f => fieldK P s f (ev S.σ x) k
  | .indexAddr t x i => idxAddrK P t (ev S.σ x) (ev S.σ i) k
  | .index t x i => idxK P t (ev S.σ x) (ev S.σ i) k
  | .binOp op t x y _ => binK P op t (ev S.σ x) (ev S.σ y) k
  | .unOp op _ x => match ev S.σ x with
    | .lit a => ∃ v, sun op a = some v ∧ k (.lit v)
    | _ => False
  | .convert src dst x => convK P src dst (ev S.σ x) k
  | .extract t i => match ev S.σ t with
    | .tup vs => match vs[i]? with
      | some v => k v
      | none => False
    | _ => False
  | .slice t x lo hi mx => sliceK P t (ev S.σ x) (lo.map (ev S.σ)) (hi.map (ev S.σ)) (mx.map (ev S.σ)) k
  | .build t parts => (placeOf P t 0).isSome = true ∧ buildK P t (parts.toList.map fun p => (p.1, ev S.σ p.2)) k
  | .makeFunc fn first captured => ∃ l m, vals (first.toList.map (ev S.σ)) = some l ∧ vals (captured.toList.map (ev S.σ)) = some m ∧ k (.lit (.func fn l.toArray m.toArray))
  | .nilCheck x => nilK (ev S.σ x) k
  | .call c => match c.callee with
    | .builtin .len => match c.args.toList, c.argTypes.toList with
      | [x], [t] => lenK P t (ev S.σ x) k
      | _, _ => False
    | .builtin .cap => match c.args.toList, c.argTypes.toList with
      | [x], [t] => capK P t (ev S.σ x) k
      | _, _ => False
    | .builtin .max => match c.args.toList.map (ev S.σ) with
      | [.lit (.int kk x), .lit (.int _ y)] => k (.lit (.int kk (if y > x then y else x)))
      | _ => False
    | .builtin .min => match c.args.toList.map (ev S.σ) with
      | [.lit (.int kk x), .lit (.int _ y)] => k (.lit (.int kk (if y < x then y else x)))
      | _ => False
    | .value f => callK P (ev S.σ f) (c.args.toList.map (ev S.σ)) k
    | _ => False
  | _ => False

end Go.VL

/- The V logic, part 7: the law of 'detF': what it says of an operation is what the model does. -/
namespace Go.VL
open Go.RowKit

section
variable {C : Ctx} {S : St} {o : Oper} {k : V → Prop}

theorem det_move {x : Operand} (ho : o.op = .move x ∨ o.op = .assign x) (h : k (ev S.σ x)) : ∃ v, DetOp C S o v ∧ k v := by
  refine ⟨_, fun a w I hR hW => ?_, h⟩
  have r := ev_of hR (x := x) (by rcases ho with ho | ho <;> simp [ho, Op.operands])
  rcases ho with ho | ho <;> (simp only [execOp, ho]; exact Yld.same hW r)

theorem det_pick {c x y : Operand} {t : Bool} (ho : o.op = .pick c x y) (hc : ev S.σ c = .lit (.bool t)) (h : k (if t = true then ev S.σ x else ev S.σ y)) : ∃ v, DetOp C S o v ∧ k v := by
  refine ⟨_, fun a w I hR hW => ?_, h⟩
  have r0 := ev_of hR (x := c) (by simp [ho, Op.operands])
  have r1 := ev_of hR (x := x) (by simp [ho, Op.operands])
  have r2 := ev_of hR (x := y) (by simp [ho, Op.operands])
  rw [hc] at r0
  simp only [V.rep] at r0
  simp only [execOp, ho, r0, asBool]
  cases t
  · exact Yld.same hW r2
  · exact Yld.same hW r1

theorem det_load {t : TypeId} {x : Operand} (ho : o.op = .load t x) (h : atP S (ev S.σ x) fun cs => loadK C.P t cs k) : ∃ v, DetOp C S o v ∧ k v := by
  obtain ⟨cs, h1, h2⟩ := atP_spec (C := C) h
  obtain ⟨v, hk, h3⟩ := loadK_spec h1
  refine ⟨v, fun a w I hR hW => ?_, hk⟩
  obtain ⟨b, off, e, hh⟩ := h2 w I _ hW (ev_of hR (x := x) (by simp [ho, Op.operands]))
  obtain ⟨y, hy, hr⟩ := h3 w I b off hh
  simp only [execOp, ho, e, Instr.loadAt, Instr.sureAddr]
  simp only [Sem.run_bind, Sem.run_pure, Result.andThen_ok, hy]
  exact Yld.same hW hr

theorem det_fieldAddr {s : TypeId} {x : Operand} {f : Nat} (ho : o.op = .fieldAddr s x f) (h : fieldAddrK C.P s f (ev S.σ x) k) : ∃ v, DetOp C S o v ∧ k v := by
  unfold fieldAddrK at h
  split at h
  · rename_i off t hfl
    obtain ⟨fs, fd, hd, hf, rfl, rfl⟩ := fld_spec hfl
    split at h
    · rename_i n hn
      obtain ⟨u, hk, hu⟩ := shiftP_spec h
      refine ⟨u, fun a w I hR hW => ?_, hk⟩
      obtain ⟨b, off, e, hr⟩ := hu w I _ (ev_of hR (x := x) (by simp [ho, Op.operands]))
      simp only [execOp, ho, e, Instr.fieldAt, Instr.sureAddr, fieldPlace]
      simp only [Sem.run_bind, Sem.run_pure, Result.andThen_ok, run_underlying hd, hf, run_tsz hn, Nat.add_one_ne_zero, if_false, Sem.run_ite, Addr.add_lit]
      exact Yld.same hW hr
    · exact h.elim
  · exact h.elim

theorem det_field {s : TypeId} {x : Operand} {f : Nat} (ho : o.op = .field s x f) (h : fieldK C.P s f (ev S.σ x) k) : ∃ v, DetOp C S o v ∧ k v := by
  unfold fieldK at h
  split at h
  · rename_i off t cs hfl hx
    obtain ⟨fs, fd, hd, hf, rfl, rfl⟩ := fld_spec hfl
    obtain ⟨v, hk, hv⟩ := partK_spec h
    refine ⟨v, fun a w I hR hW => ?_, hk⟩
    have r := ev_of hR (x := x) (by simp [ho, Op.operands])
    rw [hx] at r
    simp only [V.rep] at r
    obtain ⟨xs, e, hxs⟩ := r
    obtain ⟨y, hy, hr⟩ := hv w I xs hxs
    simp only [execOp, ho, e, Instr.field, asAgg]
    simp only [Sem.run_bind, Sem.run_pure, Result.andThen_ok, run_underlying hd, hf, hy]
    exact Yld.same hW hr
  · exact h.elim

theorem det_idxAddr {t : TypeId} {x i : Operand} (ho : o.op = .indexAddr t x i) (h : idxAddrK C.P t (ev S.σ x) (ev S.σ i) k) : ∃ v, DetOp C S o v ∧ k v := by
  unfold idxAddrK at h
  split at h
  · rename_i e kk j hd hi
    split at h
    · rename_i n hn
      rcases onS_spec h with h | ⟨b, off, ln, c, hv, h0, h1, hk⟩
      rotate_left
      · refine ⟨_, fun a w I hR hW => ?_, hk⟩
        have rx := ev_of hR (x := x) (by simp [ho, Op.operands])
        have ri := ev_of hR (x := i) (by simp [ho, Op.operands])
        rw [hv] at rx
        rw [hi] at ri
        simp only [V.rep] at rx ri
        simp only [execOp, ho, rx, ri, Instr.indexAt, asIntOf]
        simp only [Sem.run_bind, Sem.run_pure, Result.andThen_ok, run_underlying hd, h0, h1, and_self, if_true, run_tsz hn, Addr.add_lit]
        exact Yld.same hW (by simp only [V.rep])
      obtain ⟨es, ⟨h0, h1, hk⟩, hes⟩ := onL_spec h
      refine ⟨_, fun a w I hR hW => ?_, hk⟩
      obtain ⟨ad, c, ex, hc, hl⟩ := hes w I _ (ev_of hR (x := x) (by simp [ho, Op.operands]))
      have ri := ev_of hR (x := i) (by simp [ho, Op.operands])
      rw [hi] at ri
      simp only [V.rep] at ri
      rcases hl with rfl | ⟨b, off, rfl, hl⟩
      · simp at h1; omega
      · have hlt : j.toNat < es.length := by omega
        obtain ⟨g1, g2⟩ := lies_get hl j.toNat es[j.toNat] (List.getElem?_eq_getElem hlt)
        simp only [execOp, ho, ex, ri, Instr.indexAt, asIntOf]
        simp only [Sem.run_bind, Sem.run_pure, Result.andThen_ok, run_underlying hd, h0, h1, and_self, if_true, run_tsz hn, Addr.add_lit]
        refine Yld.same hW ?_
        simp only [V.rep, List.getD, List.getElem?_eq_getElem hlt, Option.getD_some]
        exact ⟨b, _, rfl, g1⟩
    · exact h.elim
  · rename_i len e kk j hd hi
    split at h
    · rename_i n hn
      obtain ⟨h0, h1, h⟩ := h
      obtain ⟨u, hk, hu⟩ := shiftP_spec h
      refine ⟨u, fun a w I hR hW => ?_, hk⟩
      obtain ⟨b, off, ex, hr⟩ := hu w I _ (ev_of hR (x := x) (by simp [ho, Op.operands]))
      have ri := ev_of hR (x := i) (by simp [ho, Op.operands])
      rw [hi] at ri
      simp only [V.rep] at ri
      simp only [execOp, ho, ex, ri, Instr.indexAt, asIntOf, Instr.sureAddr]
      simp only [Sem.run_bind, Sem.run_pure, Result.andThen_ok, run_underlying hd, h0, h1, and_self, if_true, run_tsz hn, Addr.add_lit]
      exact Yld.same hW hr
    · exact h.elim
  · exact h.elim

theorem det_idx {t : TypeId} {x i : Operand} (ho : o.op = .index t x i) (h : idxK C.P t (ev S.σ x) (ev S.σ i) k) : ∃ v, DetOp C S o v ∧ k v := by
  unfold idxK at h
  split at h
  · rename_i s kk j hd hx hi
    obtain ⟨h0, h1, hk⟩ := h
    refine ⟨_, fun a w I hR hW => ?_, hk⟩
    have rx := ev_of hR (x := x) (by simp [ho, Op.operands])
    have ri := ev_of hR (x := i) (by simp [ho, Op.operands])
    rw [hi] at ri; rw [hx] at rx
    simp only [V.rep] at ri rx
    have hlt : j.toNat < s.size := by omega
    simp only [execOp, ho, rx, ri, Instr.index, asIntOf]
    simp only [Sem.run_bind, Sem.run_pure, Result.andThen_ok, run_underlying hd, h0, if_true, getElem?_pos s j.toNat hlt]
    refine Yld.same hW ?_
    simp only [V.rep]
    congr 2
    have : s.data.toList.getD j.toNat 0 = s[j.toNat] := by
      have hl2 : j.toNat < s.data.toList.length := by simpa using hlt
      simp only [List.getD, List.getElem?_eq_getElem hl2, Option.getD_some]
      rfl
    rw [this]
  · rename_i len e cs kk j hd hx hi
    split at h
    · rename_i n hn
      obtain ⟨h0, h1, h⟩ := h
      obtain ⟨v, hk, hv⟩ := partK_spec h
      refine ⟨v, fun a w I hR hW => ?_, hk⟩
      have rx := ev_of hR (x := x) (by simp [ho, Op.operands])
      have ri := ev_of hR (x := i) (by simp [ho, Op.operands])
      rw [hi] at ri; rw [hx] at rx
      simp only [V.rep] at ri rx
      obtain ⟨xs, ex, hxs⟩ := rx
      obtain ⟨y, hy, hr⟩ := hv w I xs hxs
      simp only [execOp, ho, ex, ri, Instr.index, asIntOf]
      simp only [Sem.run_bind, Sem.run_pure, Result.andThen_ok, run_underlying hd, h0, h1, and_self, if_true, run_tsz hn, hy]
      exact Yld.same hW hr
    · exact h.elim
  · exact h.elim

theorem det_un {op : UnOp} {t : TypeId} {x : Operand} {a v : Value} (ho : o.op = .unOp op t x) (hx : ev S.σ x = .lit a) (hv : sun op a = some v) (h : k (.lit v)) : ∃ v, DetOp C S o v ∧ k v := by
  refine ⟨_, fun ac w I hR hW => ?_, h⟩
  have r := ev_of hR (x := x) (by simp [ho, Op.operands])
  rw [hx] at r
  simp only [V.rep] at r
  simp only [execOp, ho, r]
  rw [Sem.run_bind, sun_spec hv]
  exact Yld.same hW (by simp only [V.rep])

theorem det_conv {src dst : TypeId} {x : Operand} (ho : o.op = .convert src dst x) (h : convK C.P src dst (ev S.σ x) k) : ∃ v, DetOp C S o v ∧ k v := by
  unfold convK at h
  split at h
  · rename_i d kk kn n hs hd hx
    refine ⟨_, fun ac w I hR hW => ?_, h⟩
    have r := ev_of hR (x := x) (by simp [ho, Op.operands])
    rw [hx] at r
    simp only [V.rep] at r
    simp only [execOp, ho, r, convert]
    simp only [Sem.run_bind, run_underlying hs, run_underlying hd, Result.andThen_ok, Conv.intToInt, Sem.run_pure]
    exact Yld.same hW (by simp only [V.rep])
  · rename_i d s hs hd hx
    refine ⟨_, fun ac w I hR hW => ?_, h⟩
    have r := ev_of hR (x := x) (by simp [ho, Op.operands])
    rw [hx] at r
    simp only [V.rep] at r
    simp only [execOp, ho, r, convert]
    simp only [Sem.run_bind, run_underlying hs, run_underlying hd, Result.andThen_ok, Sem.run_pure]
    exact Yld.same hW (by simp only [V.rep])
  · exact h.elim

theorem det_extract {t : Operand} {i : Nat} {vs : List V} {v : V} (ho : o.op = .extract t i) (ht : ev S.σ t = .tup vs) (hv : vs[i]? = some v) (h : k v) : ∃ v, DetOp C S o v ∧ k v := by
  refine ⟨v, fun ac w I hR hW => ?_, h⟩
  have r := ev_of hR (x := t) (by simp [ho, Op.operands])
  rw [ht] at r
  simp only [V.rep] at r
  obtain ⟨xs, e, hxs⟩ := r
  have hl := reps_length hxs
  have hi : i < xs.toList.length := by rw [hl]; exact (List.getElem?_eq_some_iff.1 hv).1
  obtain ⟨v', e1, e2⟩ := reps_get hxs i _ (List.getElem?_eq_getElem hi)
  rw [hv] at e1
  obtain rfl := Option.some.inj e1
  have hx : xs[i]? = some xs.toList[i] := by simp at hi; simp [hi]
  simp only [execOp, ho, e, Instr.extract, hx]
  simp only [Sem.run_bind, Sem.run_pure, Result.andThen_ok]
  exact Yld.same hW e2

theorem det_len {c : Call} {x : Operand} {t : TypeId} (ho : o.op = .call c) (hc : c.callee = .builtin .len) (ha : c.args.toList = [x]) (ht : c.argTypes.toList = [t]) (h : lenK C.P t (ev S.σ x) k) : ∃ v, DetOp C S o v ∧ k v := by
  have ha' : c.args = #[x] := by rw [← Array.toArray_toList (xs := c.args), ha]
  have ht' : c.argTypes = #[t] := by rw [← Array.toArray_toList (xs := c.argTypes), ht]
  unfold lenK at h
  split at h
  · rename_i s hd hx
    refine ⟨_, fun ac w I hR hW => ?_, h⟩
    have r := ev_of hR (x := x) (by simp [ho, Op.operands, Call.operands, ha'])
    rw [hx] at r
    simp only [V.rep] at r
    simp only [execOp, ho, resolve, hc, ha', ht']
    simp [invoke, builtin, Builtin.len_, r, run_underlying hd]
    exact Yld.same hW (by simp only [V.rep]; rfl)
  · rename_i e v hd
    split at h
    · rename_i n hn
      rcases onS_spec h with h | ⟨b, off, ln, cc, hv, hk⟩
      rotate_left
      · refine ⟨_, fun ac w I hR hW => ?_, hk⟩
        have r := ev_of hR (x := x) (by simp [ho, Op.operands, Call.operands, ha'])
        rw [hv] at r
        simp only [V.rep] at r
        simp only [execOp, ho, resolve, hc, ha', ht']
        simp [invoke, builtin, Builtin.len_, r, run_underlying hd]
        exact Yld.same hW (by simp only [V.rep]; rfl)
      obtain ⟨es, hk, hes⟩ := onL_spec h
      refine ⟨_, fun ac w I hR hW => ?_, hk⟩
      obtain ⟨ad, cp, ex, _, _⟩ := hes w I _ (ev_of hR (x := x) (by simp [ho, Op.operands, Call.operands, ha']))
      simp only [execOp, ho, resolve, hc, ha', ht']
      simp [invoke, builtin, Builtin.len_, ex, run_underlying hd]
      exact Yld.same hW (by simp only [V.rep]; rfl)
    · exact h.elim
  · exact h.elim

theorem det_cap {c : Call} {x : Operand} {t : TypeId} (ho : o.op = .call c) (hc : c.callee = .builtin .cap) (ha : c.args.toList = [x]) (ht : c.argTypes.toList = [t]) (h : capK C.P t (ev S.σ x) k) : ∃ v, DetOp C S o v ∧ k v := by
  have ha' : c.args = #[x] := by rw [← Array.toArray_toList (xs := c.args), ha]
  have ht' : c.argTypes = #[t] := by rw [← Array.toArray_toList (xs := c.argTypes), ht]
  unfold capK at h
  split at h
  · rename_i e a n c' hd hx
    refine ⟨_, fun ac w I hR hW => ?_, h⟩
    have r := ev_of hR (x := x) (by simp [ho, Op.operands, Call.operands, ha'])
    rw [hx] at r
    simp only [V.rep] at r
    simp only [execOp, ho, resolve, hc, ha', ht']
    simp [invoke, builtin, Builtin.cap_, r, run_underlying hd]
    exact Yld.same hW (by simp only [V.rep]; rfl)
  · exact h.elim

theorem det_maxmin {c : Call} {kk k2 : IntKind} {x y : Int} (ho : o.op = .call c) (mx : Bool) (hc : c.callee = .builtin (if mx then .max else .min)) (ha : c.args.toList.map (ev S.σ) = [.lit (.int kk x), .lit (.int k2 y)])
    (h : k (.lit (.int kk (if mx then (if y > x then y else x) else (if y < x then y else x))))) : ∃ v, DetOp C S o v ∧ k v := by
  refine ⟨_, fun ac w I hR hW => ?_, h⟩
  obtain ⟨p, q, hpq⟩ : ∃ p q, c.args.toList = [p, q] := by
    match hl : c.args.toList with
    | [p, q] => exact ⟨p, q, rfl⟩
    | [] => simp [hl] at ha
    | [_] => simp [hl] at ha
    | _ :: _ :: _ :: _ => simp [hl] at ha
  have ha' : c.args = #[p, q] := by rw [← Array.toArray_toList (xs := c.args), hpq]
  simp only [hpq, List.map_cons, List.map_nil, List.cons.injEq, and_true] at ha
  have r1 := ev_of hR (x := p) (by simp [ho, Op.operands, Call.operands, ha'])
  have r2 := ev_of hR (x := q) (by simp [ho, Op.operands, Call.operands, ha'])
  rw [ha.1] at r1; rw [ha.2] at r2
  simp only [V.rep] at r1 r2
  cases mx
  · simp only [Bool.false_eq_true, if_false] at hc ⊢
    simp only [execOp, ho, resolve, hc, ha']
    simp [invoke, builtin, Builtin.min_, Builtin.min2, r1, r2]
    exact Yld.same hW (by simp only [V.rep])
  · simp only [if_true] at hc ⊢
    simp only [execOp, ho, resolve, hc, ha']
    simp [invoke, builtin, Builtin.max_, Builtin.max2, r1, r2]
    exact Yld.same hW (by simp only [V.rep])

theorem reps_map {σ : Nat → V} {l : List Tmp} {a : Act} {w : World} {I : Cells} (h : Reads σ l a w I) : ∀ (xs : List Operand), (∀ x ∈ xs, ∀ t, x = .tmp t → t ∈ l) → V.reps w I (xs.map (ev σ)) (xs.map a.eval)
  | [], _ => by simp [V.reps]
  | x :: xs, hx => by
    simp only [List.map_cons, V.reps]
    exact ⟨ev_rep h (hx x List.mem_cons_self), reps_map h xs fun y hy => hx y (List.mem_cons_of_mem _ hy)⟩

theorem run_callFunc {P : Program} {g : FuncId} {args : Array Value} {w : World} (h : callB P g = true) : (callFunc g args).run P w = .ok (.enter g args) w := by
  unfold callB at h
  split at h
  · rename_i fn hf
    simp only [Bool.and_eq_true, Bool.not_eq_true'] at h
    have hn : fn.body ≠ none := by intro hb; simp [hb] at h
    have hne : ¬ fn.name = "runtime.NumGoroutine" := by simpa using h.1
    simp [callFunc, hf, hne, hn]
  · cases h

theorem run_value {P : Program} {g : FuncId} {first cap : Array Value} {c : Call} {f : Operand} {ρ : Operand → Value} {t : TypeId} {w : World} (hc : c.callee = .value f) (hf : ρ f = .func (.func g) first cap) (h : callB P g = true) :
    ((do let d ← resolve ρ c t; invoke d.target d.args : Sem Next)).run P w = .ok (.enter g (first ++ c.args.map ρ ++ cap)) w := by
  simp only [resolve, hc, hf, Deferred.ofValue]
  simp only [Sem.run_bind, Sem.run_pure, Result.andThen_ok, invoke, run_callFunc h]

theorem det_call {c : Call} {f : Operand} (ho : o.op = .call c) (hc : c.callee = .value f) (h : callK C.P (ev S.σ f) (c.args.toList.map (ev S.σ)) k) : ∃ v, DetOp C S o v ∧ k v := by
  unfold callK at h
  split at h
  · rename_i g first cap hf
    obtain ⟨hB, v, hv, hk⟩ := h
    refine ⟨v, fun ac w I hR hW => ?_, hk⟩
    have rf := ev_of hR (x := f) (by simp [ho, Op.operands, Call.operands, hc])
    rw [hf] at rf
    simp only [V.rep] at rf
    have ra := reps_map hR c.args.toList (fun x hx => mem_tm (by simp [ho, Op.operands, Call.operands, hc]; exact .inr (by simpa using hx)))
    simp only [execOp, ho]
    rw [run_value hc rf hB]
    refine ⟨rfl, ?_⟩
    have hr := reps_append (reps_append (reps_lits (w := w) (I := I) first.toList) ra) (reps_lits cap.toList)
    have hH : Heap w I [] [] := ⟨by simp, by simp, by simp [blks], hW.heap.inn⟩
    have := hv w I _ hr hH
    have e : (first.toList ++ c.args.toList.map ac.eval ++ cap.toList).toArray = first ++ c.args.map ac.eval ++ cap := by
      apply Array.ext'
      simp
    rw [e] at this
    refine this.mono fun e w' ⟨x, r, bs', rs', I', he, hrep, hkeep, hheap, _, hle⟩ => ?_
    exact ⟨x, I', he, hW.quiet _ (fun b hb => ⟨hb, by simp⟩) hkeep hheap.inn, hkeep.stays, hle _ _ _ hrep⟩
  · exact h.elim

theorem det_nil {x : Operand} (ho : o.op = .nilCheck x) (h : nilK (ev S.σ x) k) : ∃ v, DetOp C S o v ∧ k v := by
  unfold nilK at h
  split at h
  · rename_i ad hx
    refine ⟨_, fun ac w I hR hW => ?_, h⟩
    have r := ev_of hR (x := x) (by simp [ho, Op.operands])
    rw [hx] at r
    simp only [V.rep] at r
    simp only [execOp, ho, r]
    exact Yld.same hW (by simp only [V.rep])
  · rename_i cs hx
    refine ⟨_, fun ac w I hR hW => ?_, h⟩
    have r := ev_of hR (x := x) (by simp [ho, Op.operands])
    rw [hx] at r
    have r' := r
    simp only [V.rep] at r'
    obtain ⟨b, off, e, _⟩ := r'
    rw [e] at r
    simp only [execOp, ho, e]
    exact Yld.same hW r
  · rename_i g first cap hx
    refine ⟨_, fun ac w I hR hW => ?_, h⟩
    have r := ev_of hR (x := x) (by simp [ho, Op.operands])
    rw [hx] at r
    simp only [V.rep] at r
    simp only [execOp, ho, r]
    exact Yld.same hW (by simp only [V.rep])
  · exact h.elim

theorem det_build {t : TypeId} {parts : Array (Nat × Operand)} (ho : o.op = .build t parts) (hp : (placeOf C.P t 0).isSome = true) (h : buildK C.P t (parts.toList.map fun p => (p.1, ev S.σ p.2)) k) : ∃ v, DetOp C S o v ∧ k v := by
  unfold buildK at h
  split at h
  · rename_i z hz
    obtain ⟨cs, hf, hk⟩ := h
    refine ⟨_, fun ac w I hR hW => ?_, hk⟩
    obtain ⟨x, hx, hr⟩ := run_build (w := w) (I := I) (vals := parts.map fun p => (p.1, ac.eval p.2)) hz hf ⟨0, hp⟩ (by simp)
      (by
        have := reps_map hR (parts.toList.map (·.2)) (fun x hx => mem_tm (by simp only [ho, Op.operands]; simpa using hx))
        simpa [List.map_map, Function.comp_def] using this)
    simp only [execOp, ho]
    rw [Sem.run_bind, hx]
    exact Yld.same hW hr
  · exact h.elim

theorem det_makeFunc {fn : Fn} {first captured : Array Operand} {l m : List Value} (ho : o.op = .makeFunc fn first captured) (h1 : vals (first.toList.map (ev S.σ)) = some l) (h2 : vals (captured.toList.map (ev S.σ)) = some m)
    (h : k (.lit (.func fn l.toArray m.toArray))) : ∃ v, DetOp C S o v ∧ k v := by
  refine ⟨_, fun ac w I hR hW => ?_, h⟩
  have r1 := vals_spec h1 (reps_map hR first.toList (fun x hx => mem_tm (by simp [ho, Op.operands]; exact .inl (by simpa using hx))))
  have r2 := vals_spec h2 (reps_map hR captured.toList (fun x hx => mem_tm (by simp [ho, Op.operands]; exact .inr (by simpa using hx))))
  have e1 : first.map ac.eval = l.toArray := by rw [← r1]; apply Array.ext'; simp
  have e2 : captured.map ac.eval = m.toArray := by rw [← r2]; apply Array.ext'; simp
  simp only [execOp, ho, e1, e2, Instr.makeFunc]
  exact Yld.same hW (by simp only [V.rep])
end

end Go.VL

/- The V logic, part 8: slice expressions; the law of 'detF'. -/
namespace Go.VL
open Go.RowKit

/-- What a bound stands for. -/
def Bd (x : Option V) (d n : Nat) (xv : Option Value) : Prop := (x = none ∧ xv = none ∧ n = d) ∨ ∃ kk j, x = some (.lit (.int kk j)) ∧ xv = some (.int kk j) ∧ 0 ≤ j ∧ n = j.toNat

theorem bnd_spec {x : Option V} {d : Nat} {K : Nat → Prop} (h : bnd x d K) : ∃ n, K n ∧ ∀ (w : World) (I : Cells) (xv : Option Value), (∀ v, x = some v → ∃ y, xv = some y ∧ V.rep w I v y) → (x = none → xv = none) → Bd x d n xv := by
  unfold bnd at h
  split at h
  · exact ⟨d, h, fun w I xv _ h2 => .inl ⟨rfl, h2 rfl, rfl⟩⟩
  · rename_i kk j
    refine ⟨j.toNat, h.2, fun w I xv h1 _ => .inr ⟨kk, j, rfl, ?_, h.1, rfl⟩⟩
    obtain ⟨y, hy, hr⟩ := h1 _ rfl
    simp only [V.rep] at hr
    rw [hy, hr]
  · exact h.elim

theorem opt_rep {σ : Nat → V} {l : List Tmp} {a : Act} {w : World} {I : Cells} (h : Reads σ l a w I) (x : Option Operand) (hx : ∀ y, x = some y → ∀ t, y = .tmp t → t ∈ l) :
    (∀ v, x.map (ev σ) = some v → ∃ y, x.map a.eval = some y ∧ V.rep w I v y) ∧ (x.map (ev σ) = none → x.map a.eval = none) := by
  cases x with
  | none => simp
  | some y =>
    simp only [Option.map_some, Option.some.injEq, forall_eq', reduceCtorEq, false_implies, and_true]
    exact ⟨_, rfl, ev_rep h (hx y rfl)⟩

theorem run_bound_le {P : Program} {w : World} {kk : IntKind} {j : Int} {y : Nat} {code : BoundsCode} (h0 : 0 ≤ j) (h : j.toNat ≤ y) : (Instr.sliceBound (.int kk j) y code).run P w = .ok j.toNat w :=
  run_sliceBound w kk j y code h0 (by omega)

theorem run_bounds {P : Program} {w : World} {isS : Bool} {len cap l h : Nat} {lo hi mx : Option V} {lov hiv mxv : Option Value} (hc : len ≤ cap) (hlo : Bd lo 0 l lov) (hhi : Bd hi len h hiv) (h1 : l ≤ h) (h2 : h ≤ len)
    (hm : (mx = none ∧ mxv = none) ∨ ∃ m, Bd mx 0 m mxv ∧ mx ≠ none ∧ hi ≠ none ∧ h ≤ m ∧ m ≤ len) :
    ∃ m, (Instr.sliceBounds isS len cap lov hiv mxv).run P w = .ok (l, h, m) w ∧ h ≤ m := by
  rcases hm with ⟨rfl, rfl⟩ | ⟨m, hm, hmx, hhn, g1, g2⟩
  · refine ⟨cap, ?_, by omega⟩
    rcases hhi with ⟨_, rfl, rfl⟩ | ⟨kk, j, _, rfl, h0, rfl⟩
    · rcases hlo with ⟨_, rfl, rfl⟩ | ⟨k2, i, _, rfl, h3, rfl⟩
      · simp [Instr.sliceBounds]
      · simp [Instr.sliceBounds, run_bound_le h3 h1]
    · have hj : j.toNat ≤ cap := by omega
      rcases hlo with ⟨_, rfl, rfl⟩ | ⟨k2, i, _, rfl, h3, rfl⟩
      · simp [Instr.sliceBounds, run_bound_le h0 hj]
      · simp [Instr.sliceBounds, run_bound_le h0 hj, run_bound_le h3 h1]
  · rcases hm with ⟨rfl, _⟩ | ⟨km, jm, rfl, rfl, hm0, rfl⟩
    · exact absurd rfl hmx
    · rcases hhi with ⟨rfl, _⟩ | ⟨kk, j, rfl, rfl, h0, rfl⟩
      · exact absurd rfl hhn
      · refine ⟨jm.toNat, ?_, g1⟩
        have hjm : jm.toNat ≤ cap := by omega
        rcases hlo with ⟨_, rfl, rfl⟩ | ⟨k2, i, _, rfl, h3, rfl⟩
        · simp [Instr.sliceBounds, run_bound_le hm0 hjm, run_bound_le h0 g1]
        · simp [Instr.sliceBounds, run_bound_le hm0 hjm, run_bound_le h0 g1, run_bound_le h3 h1]

section
variable {C : Ctx} {S : St} {o : Oper} {k : V → Prop}

theorem run_bounds2 {P : Program} {w : World} {isS : Bool} {len cap l h m : Nat} {lo hi mx : Option V} {lov hiv mxv : Option Value} (hlo : Bd lo 0 l lov) (hhi : Bd hi len h hiv) (hmx : Bd mx cap m mxv) (h1 : l ≤ h) (h2 : h ≤ m) (h3 : m ≤ cap)
    (h4 : mx.isSome = true → hi.isSome = true) : (Instr.sliceBounds isS len cap lov hiv mxv).run P w = .ok (l, h, m) w := by
  rcases hmx with ⟨rfl, rfl, rfl⟩ | ⟨km, jm, rfl, rfl, hm0, rfl⟩
  · rcases hhi with ⟨rfl, rfl, rfl⟩ | ⟨kk, j, rfl, rfl, h0, rfl⟩
    · rcases hlo with ⟨rfl, rfl, rfl⟩ | ⟨k2, i, rfl, rfl, h5, rfl⟩
      · simp [Instr.sliceBounds]
      · simp [Instr.sliceBounds, run_bound_le h5 h1]
    · rcases hlo with ⟨rfl, rfl, rfl⟩ | ⟨k2, i, rfl, rfl, h5, rfl⟩
      · simp [Instr.sliceBounds, run_bound_le h0 h2]
      · simp [Instr.sliceBounds, run_bound_le h0 h2, run_bound_le h5 h1]
  · rcases hhi with ⟨rfl, rfl, rfl⟩ | ⟨kk, j, rfl, rfl, h0, rfl⟩
    · simp at h4
    · rcases hlo with ⟨rfl, rfl, rfl⟩ | ⟨k2, i, rfl, rfl, h5, rfl⟩
      · simp [Instr.sliceBounds, run_bound_le hm0 h3, run_bound_le h0 h2]
      · simp [Instr.sliceBounds, run_bound_le hm0 h3, run_bound_le h0 h2, run_bound_le h5 h1]

theorem det_slice {t : TypeId} {x : Operand} {lo hi mx : Option Operand} (ho : o.op = .slice t x lo hi mx) (h : sliceK C.P t (ev S.σ x) (lo.map (ev S.σ)) (hi.map (ev S.σ)) (mx.map (ev S.σ)) k) : ∃ v, DetOp C S o v ∧ k v := by
  have mlo : ∀ y, lo = some y → ∀ t, y = .tmp t → t ∈ Oper.tm o := fun y hy => mem_tm (by simp [ho, Op.operands, hy])
  have mhi : ∀ y, hi = some y → ∀ t, y = .tmp t → t ∈ Oper.tm o := fun y hy => mem_tm (by simp [ho, Op.operands, hy])
  have mmx : ∀ y, mx = some y → ∀ t, y = .tmp t → t ∈ Oper.tm o := fun y hy => mem_tm (by simp [ho, Op.operands, hy])
  unfold sliceK at h
  split at h
  · rename_i s hd hx
    obtain ⟨hmx, h⟩ := h
    obtain ⟨hn, h, bh⟩ := bnd_spec h
    obtain ⟨ln, ⟨h1, h2, hk⟩, bl⟩ := bnd_spec h
    refine ⟨_, fun ac w I hR hW => ?_, hk⟩
    have r := ev_of hR (x := x) (by simp [ho, Op.operands])
    rw [hx] at r
    simp only [V.rep] at r
    have L := bl w I _ (opt_rep hR lo mlo).1 (opt_rep hR lo mlo).2
    have H := bh w I _ (opt_rep hR hi mhi).1 (opt_rep hR hi mhi).2
    have M : mx.map ac.eval = none := (opt_rep hR mx mmx).2 hmx
    obtain ⟨m, hrun, _⟩ := run_bounds (P := C.P) (w := w) (isS := false) (Nat.le_refl s.size) L H h1 h2 (.inl ⟨rfl, rfl⟩)
    simp only [execOp, ho, r, M, Instr.sliceAt, Instr.slice]
    simp only [Sem.run_bind, run_underlying hd, Result.andThen_ok, Option.isSome_none, Bool.false_eq_true, if_false, Sem.run_pure, hrun]
    exact Yld.same hW (by simp only [V.rep])
  · rename_i e v hd
    split at h
    · rename_i n hn
      rcases onS_spec h with h | ⟨b, off, ln0, c0, hv, h⟩
      rotate_left
      · obtain ⟨m, h, bm⟩ := bnd_spec h
        obtain ⟨hh, h, bh⟩ := bnd_spec h
        obtain ⟨ln, ⟨h1, h2, h3, h4, hk⟩, bl⟩ := bnd_spec h
        refine ⟨_, fun ac w I hR hW => ?_, hk⟩
        have r := ev_of hR (x := x) (by simp [ho, Op.operands])
        rw [hv] at r
        simp only [V.rep] at r
        have L := bl w I _ (opt_rep hR lo mlo).1 (opt_rep hR lo mlo).2
        have H := bh w I _ (opt_rep hR hi mhi).1 (opt_rep hR hi mhi).2
        have M := bm w I _ (opt_rep hR mx mmx).1 (opt_rep hR mx mmx).2
        have hrun := run_bounds2 (P := C.P) (w := w) (isS := true) L H M h1 h2 h3 h4
        simp only [execOp, ho, r, Instr.sliceAt, Instr.slice]
        simp only [Sem.run_bind, run_underlying hd, Result.andThen_ok, Sem.run_pure, hrun, run_tsz hn]
        refine Yld.same hW ?_
        simp only [V.rep]
        by_cases hml : m = ln
        · simp [hml]
        · simp [hml, Addr.add_lit]
      obtain ⟨es, h, hes⟩ := onL_spec h
      obtain ⟨hh, h, bh⟩ := bnd_spec h
      obtain ⟨ln, ⟨h1, h2, h3, hk⟩, bl⟩ := bnd_spec h
      refine ⟨_, fun ac w I hR hW => ?_, hk⟩
      obtain ⟨ad, cp, ex, hc, hl⟩ := hes w I _ (ev_of hR (x := x) (by simp [ho, Op.operands]))
      have L := bl w I _ (opt_rep hR lo mlo).1 (opt_rep hR lo mlo).2
      have H := bh w I _ (opt_rep hR hi mhi).1 (opt_rep hR hi mhi).2
      have M : (mx.map (ev S.σ) = none ∧ mx.map ac.eval = none) ∨ ∃ m, Bd (mx.map (ev S.σ)) 0 m (mx.map ac.eval) ∧ mx.map (ev S.σ) ≠ none ∧ hi.map (ev S.σ) ≠ none ∧ hh ≤ m ∧ m ≤ es.length := by
        cases hm : mx.map (ev S.σ) with
        | none => exact .inl ⟨rfl, (opt_rep hR mx mmx).2 hm⟩
        | some u =>
          obtain ⟨g1, g2⟩ := h3 u hm
          obtain ⟨m, ⟨g3, g4⟩, bm⟩ := bnd_spec g2
          have B := bm w I _ (opt_rep hR mx mmx).1 (opt_rep hR mx mmx).2
          rw [hm] at B
          exact .inr ⟨m, B, by simp, fun e => by simp [e] at g1, g3, g4⟩
      obtain ⟨m, hrun, hm⟩ := run_bounds (P := C.P) (w := w) (isS := true) hc L H h1 h2 M
      simp only [execOp, ho, ex, Instr.sliceAt, Instr.slice]
      simp only [Sem.run_bind, run_underlying hd, Result.andThen_ok, Sem.run_pure, hrun, run_tsz hn]
      refine Yld.same hW ?_
      have hlen : ((es.drop ln).take (hh - ln)).length = hh - ln := by simp; omega
      simp only [V.rep]
      refine ⟨(fun y hy => nomatch hy), if m = ln then ad else ad.map (·.add (ln * n)), m - ln, by rw [hlen], by rw [hlen]; omega, ?_⟩
      by_cases hz : hh = ln
      · left; subst hz; simp
      · right
        rcases hl with rfl | ⟨b, off, rfl, hl⟩
        · simp at h2; omega
        · refine ⟨b, off + ln * n, by rw [if_neg (by omega)]; simp [Addr.add_lit], lies_take (lies_drop hl ln (by omega)) _⟩
    · exact h.elim
  · exact h.elim

/-- THE LAW: what 'detF' says of an operation is what the model does. -/
theorem detF_spec (h : detF C.P S o k) : ∃ v, DetOp C S o v ∧ k v := by
  unfold detF at h
  split at h
  · rename_i x ho; exact det_move (.inl ho) h
  · rename_i x ho; exact det_move (.inr ho) h
  · rename_i c a b ho
    split at h
    · rename_i t hc; exact det_pick ho hc h
    · exact h.elim
  · rename_i ho; exact det_load ho h
  · rename_i ho; exact det_fieldAddr ho h
  · rename_i ho; exact det_field ho h
  · rename_i ho; exact det_idxAddr ho h
  · rename_i ho; exact det_idx ho h
  · rename_i ho; exact binK_spec ho h
  · rename_i ho
    split at h
    · rename_i hx; obtain ⟨v, hv, hk⟩ := h; exact det_un ho hx hv hk
    · exact h.elim
  · rename_i ho; exact det_conv ho h
  · rename_i ho
    split at h
    · rename_i hx
      split at h
      · rename_i hv; exact det_extract ho hx hv h
      · exact h.elim
    · exact h.elim
  · rename_i ho; exact det_slice ho h
  · rename_i ho; exact det_build ho h.1 h.2
  · rename_i ho; obtain ⟨l, m, h1, h2, h3⟩ := h; exact det_makeFunc ho h1 h2 h3
  · rename_i ho; exact det_nil ho h
  · rename_i c ho
    split at h
    · rename_i hc
      split at h
      · rename_i ha ht; exact det_len ho hc ha ht h
      · exact h.elim
    · rename_i hc
      split at h
      · rename_i ha ht; exact det_cap ho hc ha ht h
      · exact h.elim
    · rename_i hc
      split at h
      · rename_i ha; exact det_maxmin ho true hc ha h
      · exact h.elim
    · rename_i hc
      split at h
      · rename_i ha; exact det_maxmin ho false hc ha h
      · exact h.elim
    · rename_i hc; exact det_call ho hc h
    · exact h.elim
  · exact h.elim
end
end Go.VL

/- The V logic, part 9: regions. One walk in the order of the text serves every order: the operations before the tail only read; the tail's order is forced. After Derived/StillTail.lean, with abstract states in the place of frames. -/
namespace Go.VL
open Go.RowKit

def St.put (S : St) (d : Option Nat) (v : V) : St := { S with σ := upd S.σ d v }

/-- Does a value let the guarded operation run? -/
def isB (x : Value) (want : Bool) : Bool := match x with | .bool b => b == want | _ => false

/-- What stands in the slot of an operation that was not carried out. -/
def skipV : V := .lit undef

/-- Is the operation carried out? (its guard) -/
def wantA (ops : Array Oper) (σ : Nat → V) (o : Oper) : Option Bool :=
  match o.guard with
  | none => some true
  | some (g, want) => match (ops[g]?).bind (·.dst) with
    | some d => match σ d with
      | .lit x => some (isB x want)
      | _ => none
    | none => none

theorem ΓW.put {C S w I} (h : ΓW C S w I) (d : Option Nat) (v : V) : ΓW C (S.put d v) w I := ⟨h.heap, h.mine, h.keeps, h.lo⟩

/-- The step of one operation, whatever it does. -/
def Step (C : Ctx) (S : St) (o : Oper) (K : St → Prop) : Prop :=
  ∀ a w I, Γ C S a w I → ∀ Q, o.wp C.P a w (fun a' w' => ∃ S' I', Γ C S' a' w' I' ∧ K S') Q

def dstOk (N : Nat) (o : Oper) : Bool := match o.dst with | some d => decide (d < N) | none => true

theorem dstOk_spec {N : Nat} {o : Oper} (h : dstOk N o = true) : ∀ i, o.dst = some i → i < N := by
  intro i hi
  simpa [dstOk, hi] using h

theorem wantA_spec {C S a w I} {ops : Array Oper} {o : Oper} {b : Bool} (hΓ : Γ C S a w I) (h : wantA ops S.σ o = some b) : Region.wanted o (yielded ops a.tmps) = b := by
  unfold wantA at h
  unfold Region.wanted
  cases hg : o.guard with
  | none => simp only [hg, Option.some.injEq] at h; simpa using h
  | some gw =>
    obtain ⟨g, want⟩ := gw
    simp only [hg] at h ⊢
    cases hd : (ops[g]?).bind (·.dst) with
    | none => simp [hd] at h
    | some d =>
      simp only [hd] at h
      split at h
      · rename_i c hc
        simp only [Option.some.injEq] at h
        have r := hΓ.1.tmps d
        rw [hc] at r
        simp only [V.rep] at r
        rw [← h]
        simp only [yielded, hd, Option.bind_some]
        cases ht : a.tmps[d]? with
        | none =>
          simp [ht] at r
          rw [← r]; rfl
        | some x =>
          simp [ht] at r
          rw [← r]; cases x <;> (first | rfl | (rename_i b; cases b <;> cases want <;> rfl))
      · cases h

theorem Γ.reads {C S a w I} (h : Γ C S a w I) (l : List Tmp) : Reads S.σ l a w I := fun t _ => h.1.tmps t

/-- An operation that only reads, as a step. -/
theorem Yld.wp {C S a w I v} {o : Oper} {Q : Exit → Act → World → Prop} {K : Act → World → Prop} (hΓ : Γ C S a w I) (hd : dstOk C.N o = true) (h : Yld C S w I v ((execOp a.eval o).run C.P w))
    (hK : ∀ a' w' I', Γ C (S.put o.dst v) a' w' I' → K a' w') : o.wp C.P a w K Q := by
  unfold Oper.wp
  generalize (execOp a.eval o).run C.P w = r at h
  cases r with
  | ok n w' =>
    cases n <;> simp only [Yld] at h <;> simp only [Oper.upon]
    case value x =>
      obtain ⟨I', hW, hs, hr⟩ := h
      exact hK _ _ I' ⟨(hΓ.1.mono hs).put o.dst (dstOk_spec hd) hr, hW.put _ _⟩
    case skip =>
      obtain ⟨I', hW, hs, hr⟩ := h
      exact hK _ _ I' ⟨(hΓ.1.mono hs).put o.dst (dstOk_spec hd) hr, hW.put _ _⟩
    case enter f args =>
      obtain ⟨rfl, hc⟩ := h
      refine hc.mono fun e w'' ⟨x, I', he, hW, hs, hr⟩ => ?_
      subst he
      exact hK _ _ I' ⟨(hΓ.1.mono hs).put o.dst (dstOk_spec hd) hr, hW.put _ _⟩
  | halt x w' => simp only [Yld] at h

theorem Step.det {C S} {o : Oper} {v : V} {K : St → Prop} (hd : dstOk C.N o = true) (h : DetOp C S o v) (hK : K (S.put o.dst v)) : Step C S o K :=
  fun _ _ _ hΓ _ => Yld.wp hΓ hd (h _ _ _ (hΓ.reads _) hΓ.2) fun _ _ I' hΓ' => ⟨_, I', hΓ', hK⟩

/-- What an operation of a drawn region comes to, its guard looked at. -/
def YieldsA (C : Ctx) (ops : Array Oper) (o : Oper) (v : V) (S : St) : Prop :=
  (wantA ops S.σ o = some true ∧ DetOp C S o v) ∨ (wantA ops S.σ o = some false ∧ v = skipV)

def qOpA (C : Ctx) (ops : Array Oper) (i : Nat) (K : St → Prop) (S : St) : Prop :=
  match ops[i]? with
  | none => K S
  | some o => dstOk C.N o = true ∧ ∃ v, YieldsA C ops o v S ∧ K (S.put o.dst v)

theorem qOpA_mono {C ops i S} {K K' : St → Prop} (h : ∀ S, K S → K' S) (hh : qOpA C ops i K S) : qOpA C ops i K' S := by
  unfold qOpA at *
  split
  · rename_i ho; simp only [ho] at hh; exact h _ hh
  · rename_i o ho
    simp only [ho] at hh
    obtain ⟨h0, v, h1, h2⟩ := hh
    exact ⟨h0, v, h1, h _ h2⟩

theorem upd_ne {σ : Nat → V} {d : Option Nat} {v : V} {i : Nat} (h : d ≠ some i) : upd σ d v i = σ i := by simp [upd, h]

theorem put_comm (S : St) {d e : Option Nat} (v u : V) (h : ∀ i, d = some i → e ≠ some i) : (S.put d v).put e u = (S.put e u).put d v := by
  unfold St.put upd
  congr 1
  funext i
  by_cases h1 : d = some i
  · simp [h1, h i h1]
  · simp [h1]

theorem DetOp.put {C S} {o : Oper} {v u : V} {d : Option Nat} (h : DetOp C S o v) (hd : ∀ i, d = some i → i ∉ Oper.tm o) : DetOp C (S.put d u) o v := by
  intro a w I hR hW
  have hW' : ΓW C S w I := ⟨hW.heap, hW.mine, hW.keeps, hW.lo⟩
  have hR' : Reads S.σ (Oper.tm o) a w I := fun t ht => by
    have := hR t ht
    rwa [show (S.put d u).σ t = S.σ t from upd_ne (fun e => hd t e ht)] at this
  have := h a w I hR' hW'
  generalize (execOp a.eval o).run C.P w = r at this
  cases r with
  | ok n w' =>
    cases n <;> simp only [Yld] at this ⊢
    case value x => obtain ⟨I', h1, h2, h3⟩ := this; exact ⟨I', ⟨h1.heap, h1.mine, h1.keeps, h1.lo⟩, h2, h3⟩
    case skip => obtain ⟨I', h1, h2, h3⟩ := this; exact ⟨I', ⟨h1.heap, h1.mine, h1.keeps, h1.lo⟩, h2, h3⟩
    case enter f args =>
      refine ⟨this.1, this.2.mono fun e w'' ⟨x, I', he, h1, h2, h3⟩ => ⟨x, I', he, ⟨h1.heap, h1.mine, h1.keeps, h1.lo⟩, h2, h3⟩⟩
  | halt x w' => simp only [Yld] at this

theorem tm_looks {ops : Array Oper} {o : Oper} {i : Nat} (h : i ∈ Oper.tm o) : i ∈ o.looksAt ops := List.mem_append_left _ h

theorem wantA_put {ops : Array Oper} {S : St} {o : Oper} {d : Option Nat} {v : V} (h : ∀ i, d = some i → i ∉ o.looksAt ops) : wantA ops (S.put d v).σ o = wantA ops S.σ o := by
  unfold wantA
  cases hg : o.guard with
  | none => rfl
  | some gw =>
    obtain ⟨g, want⟩ := gw
    simp only []
    cases hd : (ops[g]?).bind (·.dst) with
    | none => rfl
    | some t =>
      have hne : d ≠ some t := fun e => h t e (by simp [Oper.looksAt, hg, hd])
      simp only []
      rw [show (S.put d v).σ t = S.σ t from upd_ne hne]

theorem YieldsA.put {C ops S} {o : Oper} {v u : V} {d : Option Nat} (h : YieldsA C ops o v S) (hd : ∀ i, d = some i → i ∉ o.looksAt ops) : YieldsA C ops o v (S.put d u) := by
  unfold YieldsA at *
  rw [wantA_put hd]
  exact h.imp (fun h => ⟨h.1, h.2.put fun i hi hm => hd i hi (tm_looks hm)⟩) id

theorem DetOp.unput {C S} {o : Oper} {v u : V} {d : Option Nat} (h : DetOp C (S.put d u) o v) (hd : ∀ i, d = some i → i ∉ Oper.tm o) : DetOp C S o v := by
  have e : (S.put d u).put d (match d with | some i => S.σ i | none => .any) = S := by
    unfold St.put upd
    cases S with
    | mk σ boxes rows =>
      simp only [St.mk.injEq, and_true]
      funext i
      cases d with
      | none => simp
      | some j =>
        by_cases hj : j = i
        · subst hj; simp
        · simp [hj]
  rw [← e]
  exact h.put hd

theorem YieldsA.unput {C ops S} {o : Oper} {v u : V} {d : Option Nat} (h : YieldsA C ops o v (S.put d u)) (hd : ∀ i, d = some i → i ∉ o.looksAt ops) : YieldsA C ops o v S := by
  unfold YieldsA at *
  rw [wantA_put hd] at h
  exact h.imp (fun h => ⟨h.1, h.2.unput fun i hi hm => hd i hi (tm_looks hm)⟩) id

theorem qOpA_put {C ops S} {j : Nat} {oi oj : Oper} {v : V} {K : St → Prop} (hj : ops[j]? = some oj) (hap : oi.apart ops oj = true) (hy : YieldsA C ops oi v S) (h : qOpA C ops j K (S.put oi.dst v)) :
    qOpA C ops j (fun S' => YieldsA C ops oi v S' ∧ K (S'.put oi.dst v)) S := by
  obtain ⟨h1, h2, h3⟩ := Oper.apart_spec hap
  unfold qOpA at *
  simp only [hj] at *
  obtain ⟨h0, u, hu, hK⟩ := h
  exact ⟨h0, u, hu.unput h1, hy.put h3, by rw [← put_comm S v u h2]; exact hK⟩

variable {C : Ctx} {ops : Array Oper} {md : Region.Mode}

def wpAnyLA (C : Ctx) (md : Region.Mode) (ops : Array Oper) (n : Nat) (L : Array Bool → St → Prop) : Nat → Array Bool → St → Prop
  | 0, listed, S => L listed S
  | f + 1, listed, S => Region.ready md ops listed ≠ [] ∧ ∀ i ∈ Region.ready md ops listed, i < n ∧ qOpA C ops i (wpAnyLA C md ops n L f (listed.setIfInBounds i true)) S

theorem wpOp_of_qOpA {i : Nat} {S : St} {a : Act} {w : World} {I : Cells} {K : St → Prop} {K' : Act → World → Prop} {Q' : Exit → Act → World → Prop} (hΓ : Γ C S a w I)
    (h : ∀ S' a' w' I', Γ C S' a' w' I' → K S' → K' a' w') (hh : qOpA C ops i K S) : wpOp C.P ops Q' i K' a w := by
  unfold qOpA at hh
  unfold wpOp
  split
  · rename_i ho; simp only [ho] at hh; exact h _ _ _ _ hΓ hh
  · rename_i o ho
    simp only [ho] at hh
    obtain ⟨h0, v, hy, hK⟩ := hh
    rcases hy with ⟨hw, hv⟩ | ⟨hw, rfl⟩
    · rw [if_pos (wantA_spec hΓ hw)]
      exact .inl (Yld.wp hΓ h0 (hv _ _ _ (hΓ.reads _) hΓ.2) fun a' w' I' hΓ' => h _ _ _ _ hΓ' hK)
    · rw [if_neg (by rw [wantA_spec hΓ hw]; simp)]
      exact h (S.put o.dst skipV) _ _ I ⟨hΓ.1.put o.dst (dstOk_spec h0) (by simp only [skipV, V.rep]), hΓ.2.put _ _⟩ hK

theorem wpAny_of_headA {n g : Nat} {L : Array Bool → St → Prop} {Q' : Exit → Act → World → Prop} (hL : ∀ listed S a w I, Γ C S a w I → L listed S → wpAny C.P md ops Q' g listed a w) :
    ∀ (f : Nat) (listed : Array Bool) (S : St) (a : Act) (w : World) (I : Cells), Γ C S a w I → wpAnyLA C md ops n L f listed S → wpAny C.P md ops Q' (f + g) listed a w
  | 0, listed, S, a, w, I, hΓ, h => by rw [Nat.zero_add]; exact hL _ _ _ _ _ hΓ h
  | f + 1, listed, S, a, w, I, hΓ, h => by
    rw [show f + 1 + g = (f + g) + 1 by omega]
    exact ⟨fun h0 => absurd h0 h.1, fun i hi => wpOp_of_qOpA hΓ (fun S' a' w' I' hΓ' h' => wpAny_of_headA hL f _ S' a' w' I' hΓ' h') (h.2 i hi).2⟩

theorem YieldsA.qOp {i : Nat} {o : Oper} {v : V} {S : St} {K : St → Prop} (hi : ops[i]? = some o) (hd : dstOk C.N o = true) (hy : YieldsA C ops o v S) (h : K (S.put o.dst v)) : qOpA C ops i K S := by
  unfold qOpA
  simp only [hi]
  exact ⟨hd, v, hy, h⟩

theorem wpAnyLA_first {n i : Nat} {oi : Oper} {v : V} {L : Array Bool → St → Prop} (hi : ops[i]? = some oi) (hdst : dstOk C.N oi = true)
    (hn : (n < ops.size ∧ Region.sinkB md ops n = true ∧ Region.chainB md ops n = true) ∨ n = ops.size) (hin : i < n)
    (hdone : ∀ listed S, L listed S → ∀ j ∈ Region.ready md ops listed, n ≤ j) :
    ∀ (f : Nat) (listed : Array Bool) (S : St), HeadInv md ops n listed →
      (∀ j oj, ops[j]? = some oj → j ≠ i → listed.getD j true = false → (∀ e ∈ oj.after, Region.binds md e = true → e.on ≠ i) → oi.apart ops oj = true) →
      i ∈ Region.ready md ops listed → YieldsA C ops oi v S →
      wpAnyLA C md ops n L f (listed.setIfInBounds i true) (S.put oi.dst v) → wpAnyLA C md ops n L (f + 1) listed S := by
  have less : ∀ (listed : Array Bool), HeadInv md ops n listed → i ∈ Region.ready md ops listed → ∀ j ∈ Region.ready md ops listed, j < n := fun listed inv hr j hj => by
    have hun := (mem_ready.1 hr).1
    rcases Nat.lt_or_ge j n with h | h
    · exact h
    · rcases hn with ⟨hn, hs, hc⟩ | hn
      · exact absurd hj (tail_waits hs hc hn inv _ i rfl hin hun j h)
      · obtain ⟨_, oj, hoj, _⟩ := mem_ready.1 hj
        have := (Array.getElem?_eq_some_iff.1 hoj).1
        omega
  intro f
  induction f with
  | zero =>
    intro listed S inv _ hr hy H
    refine ⟨fun h => (by rw [h] at hr; cases hr), fun j hj => ⟨less listed inv hr j hj, ?_⟩⟩
    have hjn := less listed inv hr j hj
    by_cases hji : j = i
    · subst hji; exact hy.qOp hi hdst H
    · have := hdone _ _ H j (ready_mono hj hji)
      omega
  | succ f ih =>
    intro listed S inv hfree hr hy H
    have hun := (mem_ready.1 hr).1
    refine ⟨fun h => (by rw [h] at hr; cases hr), fun j hj => ⟨less listed inv hr j hj, ?_⟩⟩
    have hjn := less listed inv hr j hj
    by_cases hji : j = i
    · subst hji; exact hy.qOp hi hdst H
    · have h1 := (H.2 j (ready_mono hj hji)).2
      obtain ⟨hjun, oj, hoj, hall⟩ := mem_ready.1 hj
      have hnot : ∀ e ∈ oj.after, Region.binds md e = true → e.on ≠ i := fun e he hb heq => by
        have h1 := hall e he hb
        rw [heq, getD_both hun] at h1
        cases h1
      have h2 := qOpA_put hoj (hfree j oj hoj hji hjun hnot) hy h1
      have hfree' : ∀ k ok, ops[k]? = some ok → k ≠ i → (listed.setIfInBounds j true).getD k true = false →
          (∀ e ∈ ok.after, Region.binds md e = true → e.on ≠ i) → oi.apart ops ok = true := fun k ok hk hki hun hno => by
        refine hfree k ok hk hki ?_ hno
        by_cases hjk : j = k
        · subst hjk; exact hjun
        · rw [getD_set_ne true hjk] at hun; exact hun
      refine qOpA_mono (fun S' h3 => ih (listed.setIfInBounds j true) S' (inv.set hj hjn) hfree' (ready_mono hr (Ne.symm hji)) h3.1 ?_) h2
      rw [Array.setIfInBounds_comm _ _ hji]
      exact h3.2

end Go.VL

/- The V logic, part 10: the steps that make or write memory: alloc, box, store, a slice literal, append, make. -/
namespace Go.VL
open Go.RowKit

theorem Step.of_value {C S} {o : Oper} {K : St → Prop} (h : ∀ a w I, Γ C S a w I → ∃ x w' S' I', (execOp a.eval o).run C.P w = .ok (.value x) w' ∧ Γ C S' (a.put o.dst x) w' I' ∧ K S') : Step C S o K := by
  intro a w I hΓ Q
  obtain ⟨x, w', S', I', h1, h2, h3⟩ := h a w I hΓ
  unfold Oper.wp
  rw [h1]
  exact ⟨S', I', h2, h3⟩

theorem Step.of_skip {C S} {o : Oper} {K : St → Prop} (h : ∀ a w I, Γ C S a w I → ∃ w' S' I', (execOp a.eval o).run C.P w = .ok .skip w' ∧ Γ C S' (a.put o.dst undef) w' I' ∧ K S') : Step C S o K := by
  intro a w I hΓ Q
  obtain ⟨w', S', I', h1, h2, h3⟩ := h a w I hΓ
  unfold Oper.wp
  rw [h1]
  exact ⟨S', I', h2, h3⟩

theorem Γ.ev {C S a w I} (h : Γ C S a w I) (x : Operand) : V.rep w I (ev S.σ x) (a.eval x) := by
  cases x with
  | tmp t => exact h.1.tmps t
  | const v => simp only [VL.ev, V.rep, Act.eval]
  | global g => simp only [VL.ev, V.rep, Act.eval]
  | func f => simp only [VL.ev, V.rep, Act.eval]

theorem Γ.evs {C S a w I} (h : Γ C S a w I) (xs : List Operand) : V.reps w I (xs.map (VL.ev S.σ)) (xs.map a.eval) := by
  induction xs with
  | nil => simp [V.reps]
  | cons x xs ih => simp only [List.map_cons, V.reps]; exact ⟨h.ev x, ih⟩

/-- A new block of no cells in I. -/
theorem Keeps.new {w : World} {I : Cells} (o : Obj) (hin : ∀ b o, I b o → b < w.heap.size) : Keeps (fun b => b < w.heap.size) w I (w.alloc o) I :=
  ⟨rfl, rfl, rfl, by simp, fun b hb => Below.heap_alloc w o b hb, fun b i hi => ⟨hi, World.cell?_alloc_past o b i (hin b i hi)⟩, fun _ _ _ h => h, Nat.le_refl _⟩

theorem ΓW.alloc {C S w I} (h : ΓW C S w I) (o : Obj) : ΓW C S (w.alloc o) I :=
  h.quiet _ (fun _ hb => hb) (Keeps.new o h.heap.inn) fun b i hi => by have := h.heap.inn b i hi; simp; omega

theorem ΓW.fresh {C S w I} (h : ΓW C S w I) : w.heap.size ∉ blks S.boxes S.rows := fun hm => by have := h.heap.lt _ hm; omega
theorem ΓW.notF {C S w I} (h : ΓW C S w I) : ¬ C.F w.heap.size := fun hF => by have := h.lo _ hF; have := h.keeps.size; omega

def St.addB (S : St) (b : Nat) (x : B) : St := { S with boxes := (b, x) :: S.boxes }
def St.addBox (S : St) (b : Nat) (cs : List V) : St := { S with boxes := (b, .c cs) :: S.boxes }
def St.addRow (S : St) (r : Row) : St := { S with rows := r :: S.rows }

/-- A new box. -/
theorem ΓW.box {C S w I} (h : ΓW C S w I) (arr : Array Value) (e : TypeId) (cs : List V) (h1 : ∀ x ∈ arr.toList, one x) (h2 : V.reps w I cs arr.toList) :
    ΓW C (S.addBox w.heap.size cs) (w.alloc (.cells arr e)) I := by
  have hA := h.alloc (.cells arr e)
  have hst : Stays w I (w.alloc (.cells arr e)) I := (Keeps.new (.cells arr e) h.heap.inn).stays
  refine ⟨⟨fun p hp => ?_, hA.heap.rw, ?_, hA.heap.inn⟩, fun b hb => ?_, hA.keeps, hA.lo⟩
  · rcases List.mem_cons.1 hp with rfl | hp
    · exact ⟨arr, e, heap_new w _, h1, V.reps_mono hst _ _ h2, fun o hi => by have := h.heap.inn _ _ hi; simp at this⟩
    · exact hA.heap.bx p hp
  · simp only [blks, St.addBox, List.map_cons, List.cons_append, List.nodup_cons]
    exact ⟨h.fresh, h.heap.nodup⟩
  · simp only [blks, St.addBox, List.map_cons, List.cons_append, List.mem_cons] at hb
    rcases hb with rfl | hb
    · exact h.notF
    · exact h.mine b hb

theorem one_of_reps {w I} : ∀ {cs : List V} {xs : List Value}, V.reps w I cs xs → (∀ c ∈ cs, match c with | .lit x => oneB x = true | .list _ _ _ => True | .ref _ => True | _ => False) → ∀ x ∈ xs, one x
  | [], [], _, _, x, hx => by simp at hx
  | c :: cs, y :: ys, h, hc, x, hx => by
    simp only [V.reps] at h
    rcases List.mem_cons.1 hx with rfl | hx
    · have h0 := hc c List.mem_cons_self
      have hr := h.1
      cases c <;> simp only [V.rep] at hr h0
      case lit z => rw [hr]; exact oneB_one h0
      case list own k es => obtain ⟨_, a, c, rfl, _⟩ := hr; exact trivial
      case ref cs => obtain ⟨b, o, rfl, _⟩ := hr; exact trivial
    · exact one_of_reps h.2 (fun c' hc' => hc c' (List.mem_cons_of_mem _ hc')) x hx
  | [], _ :: _, h, _, _, _ => by simp [V.reps] at h
  | _ :: _, [], h, _, _, _ => by simp [V.reps] at h

/-- Cells that may be laid into memory. -/
def okC : List V → Bool
  | [] => true
  | .lit x :: r => oneB x && okC r
  | .list _ _ _ :: r => okC r
  | .ref _ :: r => okC r
  | _ :: _ => false

theorem okC_spec : ∀ {cs : List V}, okC cs = true → ∀ c ∈ cs, match c with | .lit x => oneB x = true | .list _ _ _ => True | .ref _ => True | _ => False
  | .lit x :: r, h, c, hc => by
    simp only [okC, Bool.and_eq_true] at h
    rcases List.mem_cons.1 hc with rfl | hc
    · exact h.1
    · exact okC_spec h.2 c hc
  | .list _ _ _ :: r, h, c, hc => by
    simp only [okC] at h
    rcases List.mem_cons.1 hc with rfl | hc
    · exact trivial
    · exact okC_spec h c hc
  | .ref _ :: r, h, c, hc => by
    simp only [okC] at h
    rcases List.mem_cons.1 hc with rfl | hc
    · exact trivial
    · exact okC_spec h c hc
  | .any :: _, h, _, _ => by simp [okC] at h
  | .agg _ :: _, h, _, _ => by simp [okC] at h
  | .tup _ :: _, h, _, _ => by simp [okC] at h
  | [], _, _, hc => by simp at hc

def allocK (P : Program) (S : St) (d : Option Nat) (t : TypeId) (K : St → Prop) : Prop :=
  match tzr P t with
  | some z => okC (z.map .lit) = true ∧ ∀ b, b ∉ blks S.boxes S.rows → K ((S.addBox b (z.map .lit)).put d (.lit (.pointer (some ⟨b, 0, none⟩))))
  | none => False

theorem Γ.boxed {C S a w I} (h : Γ C S a w I) (d : Option Nat) (hd : ∀ i, d = some i → i < C.N) (arr : Array Value) (e : TypeId) (cs : List V) (h1 : okC cs = true) (h2 : V.reps w I cs arr.toList) :
    Γ C ((S.addBox w.heap.size cs).put d (.lit (.pointer (some ⟨w.heap.size, 0, none⟩)))) (a.put d (.pointer (some ⟨w.heap.size, 0, none⟩))) (w.alloc (.cells arr e)) I :=
  ⟨(h.1.mono (Keeps.new (.cells arr e) h.2.heap.inn).stays).put d hd (by simp only [V.rep]), (h.2.box arr e cs (one_of_reps h2 (okC_spec h1)) h2).put _ _⟩

theorem step_alloc {C S} {o : Oper} {t : TypeId} {K : St → Prop} (ho : o.op = .alloc t) (hd : dstOk C.N o = true) (h : allocK C.P S o.dst t K) : Step C S o K := by
  unfold allocK at h
  split at h
  · rename_i z hz
    refine Step.of_value fun a w I hΓ => ?_
    obtain ⟨v, hv, hvz⟩ := run_tzr (w := w) hz
    refine ⟨_, _, _, I, ?_, Γ.boxed hΓ o.dst (dstOk_spec hd) v.cells t (z.map .lit) h.1 (by rw [hvz]; exact reps_lits z), h.2 _ hΓ.2.fresh⟩
    simp only [execOp, ho, Instr.alloc, newVar, newRow]
    simp only [Sem.run_bind, hv, Result.andThen_ok, run_newObj, Sem.run_pure, World.alloc_eq]
  · exact h.elim

def boxK (S : St) (d : Option Nat) (v : V) (K : St → Prop) : Prop :=
  match cellsV v with
  | some cs => okC cs = true ∧ ∀ b, b ∉ blks S.boxes S.rows → K ((S.addBox b cs).put d (.lit (.pointer (some ⟨b, 0, none⟩))))
  | none => False

theorem step_box {C S} {o : Oper} {t : TypeId} {x : Operand} {K : St → Prop} (ho : o.op = .box t x) (hd : dstOk C.N o = true) (h : boxK S o.dst (VL.ev S.σ x) K) : Step C S o K := by
  unfold boxK at h
  split at h
  · rename_i cs hc
    refine Step.of_value fun a w I hΓ => ?_
    have hr := cellsV_spec hc (hΓ.ev x)
    refine ⟨_, _, _, I, ?_, Γ.boxed hΓ o.dst (dstOk_spec hd) (a.eval x).cells t cs h.1 hr, h.2 _ hΓ.2.fresh⟩
    simp only [execOp, ho, Instr.box, newVar, newRow]
    simp only [Sem.run_bind, Result.andThen_ok, run_newObj, Sem.run_pure, World.alloc_eq]
  · exact h.elim

/-! ### A store into a box -/

def setB : List (Nat × B) → Nat → List V → List (Nat × B)
  | [], _, _ => []
  | (b, cs) :: r, x, ds => if x = b then (b, .c ds) :: r else (b, cs) :: setB r x ds

theorem setB_keys : ∀ (bs : List (Nat × B)) (x : Nat) (ds : List V), (setB bs x ds).map (·.1) = bs.map (·.1)
  | [], _, _ => rfl
  | (b, cs) :: r, x, ds => by
    unfold setB
    split
    · rfl
    · simp [setB_keys r x ds]

theorem setB_mem : ∀ {bs : List (Nat × B)} {x : Nat} {ds : List V} {p : Nat × B}, (bs.map (·.1)).Nodup → p ∈ setB bs x ds → p = (x, .c ds) ∨ (p ∈ bs ∧ p.1 ≠ x)
  | (b, cs) :: r, x, ds, p, hn, hp => by
    unfold setB at hp
    simp only [List.map_cons, List.nodup_cons] at hn
    split at hp
    · rename_i e; subst e
      rcases List.mem_cons.1 hp with rfl | hp
      · exact .inl rfl
      · exact .inr ⟨List.mem_cons_of_mem _ hp, fun e => hn.1 (e ▸ List.mem_map.2 ⟨p, hp, rfl⟩)⟩
    · rename_i e
      rcases List.mem_cons.1 hp with rfl | hp
      · exact .inr ⟨List.mem_cons_self, fun e' => e e'.symm⟩
      · exact (setB_mem hn.2 hp).imp id fun h => ⟨List.mem_cons_of_mem _ h.1, h.2⟩
  | [], _, _, _, _, hp => by simp [setB] at hp

def storeK (P : Program) (S : St) (d : Option Nat) (t : TypeId) (p v : V) (K : St → Prop) : Prop :=
  match p with
  | .lit (.pointer (some ⟨b, o, none⟩)) => match getB S.boxes b, cellsV v, tsz P t with
    | some cs, some vs, some n => vs.length = n ∧ okC vs = true ∧ o + n ≤ cs.length ∧ K ({ S with boxes := setB S.boxes b (cs.take o ++ vs ++ cs.drop (o + n)) }.put d .any)
    | _, _, _ => False
  | _ => False

theorem setRow_os' (w : World) (g : Nat) (cs : Array Value) : (w.setRow g cs).os = w.os ∧ (w.setRow g cs).tape = w.tape ∧ (w.setRow g cs).output = w.output := ⟨rfl, rfl, rfl⟩

/-- A box is written anew. -/
theorem ΓW.write {C S w I b} {arr arr' : Array Value} {e : TypeId} {ds : List V} (h : ΓW C S w I) (hb : b ∈ S.boxes.map (·.1)) (hw : w.heap[b]? = some (.cells arr e (0, 0)))
    (h1 : ∀ x ∈ arr'.toList, one x) (h2 : V.reps w I ds arr'.toList) : ΓW C { S with boxes := setB S.boxes b ds } (w.setRow b arr') I ∧ Stays w I (w.setRow b arr') I := by
  have hbI : ∀ o, ¬ I b o := by
    obtain ⟨p, hp, rfl⟩ := List.mem_map.1 hb
    exact (h.heap.bx p hp).out
  have hst : Stays w I (w.setRow b arr') I := fun b' o hi => ⟨hi, cell_setRow_other w b arr' _ (fun e => hbI o (by rw [← e]; exact hi))⟩
  have hn : (S.boxes.map (·.1)).Nodup := (List.nodup_append.1 h.heap.nodup).1
  have hblk : b ∈ blks S.boxes S.rows := List.mem_append.2 (.inl hb)
  refine ⟨⟨⟨fun p hp => ?_, fun r hr => ?_, ?_, fun b' o hi => by simpa using h.heap.inn b' o hi⟩, ?_, ?_, h.lo⟩, hst⟩
  · rcases setB_mem hn hp with rfl | ⟨hp, hne⟩
    · exact ⟨arr', e, setRow_heap w b arr arr' e (0, 0) hw, h1, V.reps_mono hst _ _ h2, hbI⟩
    · exact (h.heap.bx p hp).mono hst (setRow_other w b p.1 arr' hne) fun _ hi => hi
  · refine (h.heap.rw r hr).mono (fun g hg => setRow_other w b g arr' fun e => ?_) fun _ _ _ hi => hi
    subst e
    exact (List.nodup_append.1 h.heap.nodup).2.2 g hb g (List.mem_filterMap.2 ⟨r, hr, hg⟩) rfl
  · simp only [blks, setB_keys]; exact h.heap.nodup
  · simp only [blks, setB_keys]; exact h.mine
  · exact h.keeps.trans ⟨rfl, rfl, rfl, by simp, fun b' hb' => setRow_other w b b' arr' (fun e => h.mine b hblk (e ▸ hb')), hst, fun _ _ _ hi => hi, Nat.le_refl _⟩

theorem step_store {C S} {o : Oper} {t : TypeId} {x y : Operand} {K : St → Prop} (ho : o.op = .store t x y) (hd : dstOk C.N o = true) (h : storeK C.P S o.dst t (VL.ev S.σ x) (VL.ev S.σ y) K) : Step C S o K := by
  unfold storeK at h
  split at h
  · rename_i b off hx
    split at h
    · rename_i cs vs n hb hv hn
      obtain ⟨g1, g2, g3, hK⟩ := h
      refine Step.of_skip fun a w I hΓ => ?_
      have rx := hΓ.ev x
      rw [hx] at rx
      simp only [V.rep] at rx
      have hm := getB_mem hb
      obtain ⟨arr, e, q1, q2, q3, q4⟩ := hΓ.2.heap.bx _ hm
      have hr := cellsV_spec hv (hΓ.ev y)
      have hl : (a.eval y).cells.size = n := by have := reps_length hr; simp at this; omega
      have hla : arr.size = cs.length := by have := reps_length q3; simpa using this
      have hone := one_of_reps hr (okC_spec g2)
      have hst := run_storeCells_at (P := C.P) b off e (a.eval y).cells.toList 0 arr w q1 (by simp [hl]; omega) (fun v hv' => by
        have := hone v hv'
        cases v <;> simp_all [one, Value.oneCell'])
      simp only [Nat.add_zero] at hst
      have hlen : (a.eval y).cells.toList.length = n := by simpa using hl
      rw [hlen] at hst
      obtain ⟨hW, hS⟩ := hΓ.2.write (ds := cs.take off ++ vs ++ cs.drop (off + n)) (arr' := (arr.toList.take off ++ (a.eval y).cells.toList ++ arr.toList.drop (off + n)).toArray) (List.mem_map.2 ⟨_, hm, rfl⟩) q1
        (fun z hz => by
          simp only [List.mem_append] at hz
          rcases hz with (hz | hz) | hz
          · exact q2 z (List.mem_of_mem_take hz)
          · exact hone z hz
          · exact q2 z (List.mem_of_mem_drop hz))
        (reps_append (reps_append (reps_take off q3) hr) (reps_drop (off + n) q3))
      refine ⟨_, _, I, ?_, ⟨(hΓ.1.mono hS).put o.dst (dstOk_spec hd) (by simp only [V.rep]), hW.put _ _⟩, hK⟩
      simp only [execOp, ho, rx, Instr.storeAt, Instr.sureAddr, storeVar]
      simp only [Sem.run_bind, Sem.run_pure, Result.andThen_ok, run_tsz hn, hl, ne_eq, not_true_eq_false, if_false, hst]
    · exact h.elim
  · exact h.elim

end Go.VL

/- The V logic, part 11: owned rows: a slice literal, append, make. -/
namespace Go.VL
open Go.RowKit

/-- One row is taken out of the owned ones. -/
def takeR : List Row → Value → (Row → List Row → Prop) → Prop
  | [], _, _ => False
  | r :: rs, y, K => (r.x = y ∧ K r rs) ∨ takeR rs y fun r' rs' => K r' (r :: rs')

theorem takeR_spec : ∀ {rows : List Row} {y : Value} {K : Row → List Row → Prop}, takeR rows y K → ∃ r rs, K r rs ∧ r.x = y ∧ rows.Perm (r :: rs)
  | r :: rs, y, K, h => by
    rcases h with ⟨h1, h2⟩ | h
    · exact ⟨r, rs, h2, h1, .refl _⟩
    · obtain ⟨r', rs', h1, h2, h3⟩ := takeR_spec h
      exact ⟨r', r :: rs', h1, h2, (h3.cons r).trans (.swap r' r rs')⟩

theorem blks_perm {boxes : List (Nat × B)} {rows rows' : List Row} (h : rows.Perm rows') : (blks boxes rows).Perm (blks boxes rows') :=
  List.Perm.append_left _ (h.filterMap _)

theorem ΓW.perm {C S w I rows'} (h : ΓW C S w I) (hp : S.rows.Perm rows') : ΓW C { S with rows := rows' } w I :=
  ⟨⟨h.heap.bx, fun r hr => h.heap.rw r (hp.mem_iff.2 hr), (blks_perm hp).nodup_iff.1 h.heap.nodup, h.heap.inn⟩, fun b hb => h.mine b ((blks_perm hp).mem_iff.2 hb), h.keeps, h.lo⟩

theorem blks_tail {boxes : List (Nat × B)} {r : Row} {rs : List Row} : ∀ b ∈ blks boxes rs, b ∈ blks boxes (r :: rs) := by
  intro b hb
  simp only [blks, List.mem_append, List.mem_filterMap] at hb ⊢
  exact hb.imp id fun ⟨r', h1, h2⟩ => ⟨r', List.mem_cons_of_mem _ h1, h2⟩

theorem nodup_tail {boxes : List (Nat × B)} {r : Row} {rs : List Row} (h : (blks boxes (r :: rs)).Nodup) : (blks boxes rs).Nodup := by
  refine List.Sublist.nodup ?_ h
  unfold blks
  exact List.Sublist.append_left ((List.sublist_cons_self r rs).filterMap _) _

theorem ΓW.drop {C S w I r rs} (h : ΓW C S w I) (hs : S.rows = r :: rs) : ΓW C { S with rows := rs } w I := by
  have h1 := h.heap.nodup
  have h2 := h.mine
  rw [hs] at h1 h2
  exact ⟨⟨h.heap.bx, fun r' hr => h.heap.rw r' (hs ▸ List.mem_cons_of_mem _ hr), nodup_tail h1, h.heap.inn⟩, fun b hb => h2 b (blks_tail b hb), h.keeps, h.lo⟩

/-- Cells one behind the other. -/
theorem lies_of_cells {w' : World} {I' : Cells} {b k : Nat} : ∀ {es : List (List V)} {xs : List Value} {o : Nat}, V.reps w' I' es.flatten xs → (∀ e ∈ es, e.length = k) →
    (∀ j x, xs[j]? = some x → w'.cell? ⟨b, o + j, none⟩ = some x ∧ I' b (o + j) ∧ one x) → V.lies w' I' k es b o
  | [], xs, o, _, _, _ => by simp only [V.lies]
  | e :: es, xs, o, hr, hk, hc => by
    simp only [V.lies]
    have hl := hk e List.mem_cons_self
    have h1 := reps_take k hr
    have h2 := reps_drop k hr
    simp only [List.flatten_cons] at h1 h2
    rw [List.take_append_of_le_length (by omega), ← hl, List.take_length] at h1
    rw [List.drop_append_of_le_length (by omega), ← hl, List.drop_length, List.nil_append] at h2
    rw [hl] at h1 h2
    refine ⟨?_, hl, lies_of_cells h2 (fun e' he => hk e' (List.mem_cons_of_mem _ he)) fun j x hx => ?_⟩
    · have ats : ∀ {vs : List V} {ys : List Value} {p : Nat}, V.reps w' I' vs ys → (∀ j x, ys[j]? = some x → w'.cell? ⟨b, p + j, none⟩ = some x ∧ I' b (p + j) ∧ one x) → V.ats w' I' vs b p := by
        intro vs
        induction vs with
        | nil => intro ys p _ _; simp only [V.ats]
        | cons v vs ih =>
          intro ys p hr hc
          cases ys with
          | nil => simp [V.reps] at hr
          | cons y ys =>
            simp only [V.reps] at hr
            simp only [V.ats]
            obtain ⟨c1, c2, c3⟩ := hc 0 y rfl
            refine ⟨⟨y, by simpa using c1, by simpa using c2, c3, hr.1⟩, ih hr.2 fun j x hx => ?_⟩
            have := hc (j + 1) x (by simpa using hx)
            rwa [show p + (j + 1) = p + 1 + j from by omega] at this
      refine ats h1 fun j x hx => hc j x ?_
      rw [List.getElem?_take] at hx
      split at hx
      · exact hx
      · cases hx
    · have := hc (k + j) x (by simpa [List.getElem?_drop] using hx)
      rwa [show o + (k + j) = o + k + j from by omega] at this

theorem flatten_len {k : Nat} : ∀ {es : List (List V)}, (∀ e ∈ es, e.length = k) → es.flatten.length = es.length * k
  | [], _ => by simp
  | e :: es, h => by
    rw [List.flatten_cons, List.length_append, h e List.mem_cons_self, flatten_len fun e' he => h e' (List.mem_cons_of_mem _ he), List.length_cons, Nat.add_mul]
    omega

/-- A new block that is a row. -/
theorem ΓW.newRow {C S w I} (h : ΓW C S w I) (arr : Array Value) (e : TypeId) (k : Nat) (hk : 0 < k) (es : List (List V)) (cap : Nat) (harr : arr.size = cap * k) (hc : es.length ≤ cap) (hm : cap ≤ maxLen) (hes : ∀ e ∈ es, e.length = k)
    (hone : ∀ x ∈ arr.toList.take (es.length * k), one x) (hrep : V.reps w I es.flatten (arr.toList.take (es.length * k))) :
    ∃ I', ΓW C (S.addRow ⟨.slice (some ⟨w.heap.size, 0, none⟩) es.length cap, k, e⟩) (w.alloc (.cells arr e)) I' ∧ Stays w I (w.alloc (.cells arr e)) I' ∧
      V.rep (w.alloc (.cells arr e)) I' (.list (some (.slice (some ⟨w.heap.size, 0, none⟩) es.length cap)) k es) (.slice (some ⟨w.heap.size, 0, none⟩) es.length cap) := by
  have K := Keeps.alloc (w := w) (I := I) (.cells arr e) (fun i => i < es.length * k) h.heap.inn
  have hnew : (w.alloc (.cells arr e)).heap[w.heap.size]? = some (.cells arr e (0, 0)) := heap_new w _
  have W := h.quiet _ (fun _ hb => hb) K (fun b i hi => by
    rcases hi with hi | ⟨rfl, _⟩
    · have := h.heap.inn b i hi; simp; omega
    · simp)
  refine ⟨_, ⟨⟨W.heap.bx, fun r hr => ?_, ?_, W.heap.inn⟩, fun b hb => ?_, W.keeps, W.lo⟩, K.stays, ?_⟩
  · rcases List.mem_cons.1 hr with rfl | hr
    · refine ⟨hk, ⟨_, _, by simp only [slen, List.length_take, Array.length_toList, harr]; exact Nat.min_eq_left (Nat.mul_le_mul_right k hc), .inr ⟨w.heap.size, cap, arr, rfl, Nat.zero_le _, hnew, hc, hm, harr, rfl⟩⟩, fun g hg o ho hi => ?_⟩
      simp only [Value.ownBlock, Option.some.injEq] at hg
      subst hg
      rcases hi with hi | ⟨_, hi⟩
      · have := h.heap.inn _ _ hi; simp at this
      · simp only [slen] at ho; omega
    · exact W.heap.rw r hr
  · have : (blks S.boxes ((⟨.slice (some ⟨w.heap.size, 0, none⟩) es.length cap, k, e⟩ : Row) :: S.rows)).Perm (w.heap.size :: blks S.boxes S.rows) := by
      simp only [blks, List.filterMap_cons, Row.blk, Value.ownBlock]
      exact List.perm_middle
    exact this.nodup_iff.2 (List.nodup_cons.2 ⟨h.fresh, h.heap.nodup⟩)
  · have : (blks S.boxes ((⟨.slice (some ⟨w.heap.size, 0, none⟩) es.length cap, k, e⟩ : Row) :: S.rows)).Perm (w.heap.size :: blks S.boxes S.rows) := by
      simp only [blks, List.filterMap_cons, Row.blk, Value.ownBlock]
      exact List.perm_middle
    rcases List.mem_cons.1 (this.mem_iff.1 hb) with rfl | hb
    · exact h.notF
    · exact h.mine b hb
  · simp only [V.rep]
    refine ⟨fun y hy => (Option.some.inj hy), _, cap, rfl, hc, .inr ⟨w.heap.size, 0, rfl, lies_of_cells (V.reps_mono K.stays _ _ hrep) hes fun j x hx => ?_⟩⟩
    rw [List.getElem?_take] at hx
    split at hx
    · rename_i hj
      refine ⟨by rw [World.cell?_alloc_at _ _ _ _ rfl]; simpa using hx, .inr ⟨rfl, by omega⟩, hone x ?_⟩
      exact List.mem_of_getElem? (i := j) (by rw [List.getElem?_take, if_pos hj]; exact hx)
    · cases hx

/-- The values that lie where elements lie. -/
theorem ats_vals {w : World} {I : Cells} : ∀ {vs : List V} {b o : Nat}, V.ats w I vs b o → ∃ xs, V.reps w I vs xs ∧ (∀ x ∈ xs, one x) ∧ ∀ j x, xs[j]? = some x → w.cell? ⟨b, o + j, none⟩ = some x ∧ I b (o + j)
  | [], b, o, _ => ⟨[], by simp [V.reps], by simp, by simp⟩
  | v :: vs, b, o, h => by
    simp only [V.ats] at h
    obtain ⟨⟨x, h1, h2, h3, h4⟩, h5⟩ := h
    obtain ⟨xs, g1, g2, g3⟩ := ats_vals h5
    refine ⟨x :: xs, by simp only [V.reps]; exact ⟨h4, g1⟩, fun y hy => ?_, fun j y hy => ?_⟩
    · rcases List.mem_cons.1 hy with rfl | hy
      · exact h3
      · exact g2 y hy
    · cases j with
      | zero => simp at hy; subst hy; exact ⟨h1, h2⟩
      | succ j =>
        have := g3 j y (by simpa using hy)
        rwa [show o + 1 + j = o + (j + 1) from by omega] at this

theorem lies_vals {w : World} {I : Cells} {k : Nat} : ∀ {es : List (List V)} {b o : Nat}, V.lies w I k es b o → (∀ e ∈ es, e.length = k) ∧ ∃ xs, V.reps w I es.flatten xs ∧ (∀ x ∈ xs, one x) ∧ ∀ j x, xs[j]? = some x → w.cell? ⟨b, o + j, none⟩ = some x ∧ I b (o + j)
  | [], b, o, _ => ⟨by simp, [], by simp [V.reps], by simp, by simp⟩
  | e :: es, b, o, h => by
    simp only [V.lies] at h
    obtain ⟨h1, h2, h3⟩ := h
    obtain ⟨xs, a1, a2, a3⟩ := ats_vals h1
    obtain ⟨q, ys, b1, b2, b3⟩ := lies_vals h3
    have hl := reps_length a1
    refine ⟨fun e' he => ?_, xs ++ ys, by rw [List.flatten_cons]; exact reps_append a1 b1, fun x hx => ?_, fun j x hx => ?_⟩
    · rcases List.mem_cons.1 he with rfl | he
      · exact h2
      · exact q e' he
    · rcases List.mem_append.1 hx with hx | hx
      · exact a2 x hx
      · exact b2 x hx
    · rw [List.getElem?_append] at hx
      split at hx
      · exact a3 j x hx
      · rename_i hj
        have := b3 (j - xs.length) x hx
        rwa [show o + k + (j - xs.length) = o + j from by omega] at this

theorem splice_step {α : Type} (L X Y : List α) (p k : Nat) (hX : X.length = k) (hp : p + k ≤ L.length) :
    (L.take p ++ X ++ L.drop (p + k)).take (p + k) ++ Y ++ (L.take p ++ X ++ L.drop (p + k)).drop (p + k + Y.length) = L.take p ++ (X ++ Y) ++ L.drop (p + (X ++ Y).length) := by
  have h : (L.take p ++ X).length = p + k := by simp [hX]; omega
  rw [List.take_left' h, List.drop_append, List.drop_eq_nil_of_le (by omega), List.nil_append, List.drop_drop, h]
  simp only [List.append_assoc, List.length_append, hX]
  congr 4
  omega

/-- The elements of a slice literal. -/
def partsE (k : Nat) : Nat → List (Nat × V) → Option (List (List V))
  | _, [] => some []
  | j, (i, v) :: r => if i = j then match cellsV v, partsE k (j + 1) r with
    | some cs, some l => if cs.length = k ∧ okC cs = true then some (cs :: l) else none
    | _, _ => none
    else none

theorem partsE_spec {w I} {k : Nat} (n : Nat) : ∀ {parts : List (Nat × V)} {vals : List (Nat × Value)} {j : Nat} {es : List (List V)} {arr : Array Value}, partsE k j parts = some es → arr.size = n * k → j + es.length ≤ n →
    parts.map (·.1) = vals.map (·.1) → V.reps w I (parts.map (·.2)) (vals.map (·.2)) →
    (∀ e ∈ es, e.length = k ∧ okC e = true) ∧ ∃ arr' xs, Instr.fill (fun i => some (i * k, k)) arr vals = some arr' ∧ V.reps w I es.flatten xs ∧ arr'.toList = arr.toList.take (j * k) ++ xs ++ arr.toList.drop (j * k + xs.length)
  | [], [], j, es, arr, h, hs, hj, _, _ => by
    simp only [partsE, Option.some.injEq] at h
    subst h
    exact ⟨by simp, arr, [], rfl, by simp [V.reps], by simp⟩
  | (i, v) :: ps, (i', x) :: vs, j, es, arr, h, hs, hj, hi, hx => by
    simp only [List.map_cons, List.cons.injEq] at hi
    obtain ⟨rfl, hi⟩ := hi
    simp only [List.map_cons, V.reps] at hx
    unfold partsE at h
    split at h
    · rename_i e; subst e
      split at h
      · rename_i cs l h1 h2
        split at h
        · rename_i hk
          obtain rfl := Option.some.inj h
          have hc := cellsV_spec h1 hx.1
          have hl : x.cells.size = k := by have := reps_length hc; simp at this; omega
          simp only [List.length_cons] at hj
          have hb : i * k + k ≤ arr.size := by rw [hs, ← Nat.succ_mul]; exact Nat.mul_le_mul_right k (by omega)
          have hset := foldl_set (i * k) x.cells.toList 0 arr (by simp; omega)
          simp only [Nat.add_zero] at hset
          have hcl : x.cells.toList.length = k := by simpa using hl
          rw [hcl] at hset
          obtain ⟨q, arr', xs, f1, f2, f3⟩ := partsE_spec n (arr := (x.cells.zipIdx).foldl (fun cs (c, j) => cs.setIfInBounds (i * k + j) c) arr) h2 (by
            have : ((x.cells.zipIdx).foldl (fun cs (c, j) => cs.setIfInBounds (i * k + j) c) arr).toList.length = n * k := by
              rw [← Array.foldl_toList, Array.toList_zipIdx, hset]; simp; omega
            simpa using this) (by omega) hi hx.2
          refine ⟨fun e he => ?_, arr', x.cells.toList ++ xs, ?_, by rw [List.flatten_cons]; exact reps_append hc f2, ?_⟩
          · rcases List.mem_cons.1 he with rfl | he
            · exact hk
            · exact q e he
          · unfold Instr.fill
            simp only []
            rw [if_neg (by simp; omega)]
            exact f1
          · rw [f3, ← Array.foldl_toList, Array.toList_zipIdx, hset]
            have := splice_step arr.toList x.cells.toList xs (i * k) k hcl (by simpa using hb)
            rw [show (i + 1) * k = i * k + k from by rw [Nat.add_mul]; omega]
            exact this
        · cases h
      · cases h
    · cases h
  | [], _ :: _, _, _, _, _, _, _, hi, _ => by simp at hi
  | _ :: _, [], _, _, _, _, _, _, hi, _ => by simp at hi

def buildSliceK (P : Program) (S : St) (d : Option Nat) (t : TypeId) (n : Nat) (parts : List (Nat × V)) (K : St → Prop) : Prop :=
  match P.underlying t with
  | some (.slice e) => match tsz P e, tzr P e with
    | some k, some z => 0 < k ∧ z.length = k ∧ n * k ≤ 16777216 ∧ ∃ es, partsE k 0 parts = some es ∧ es.length = n ∧ ∀ y, K ((S.addRow ⟨y, k, e⟩).put d (.list (some y) k es))
    | _, _ => False
  | _ => False

theorem step_buildSlice {C S} {o : Oper} {t : TypeId} {n : Nat} {parts : Array (Nat × Operand)} {K : St → Prop} (ho : o.op = .buildSlice t n parts) (hd : dstOk C.N o = true)
    (h : buildSliceK C.P S o.dst t n (parts.toList.map fun p => (p.1, VL.ev S.σ p.2)) K) : Step C S o K := by
  unfold buildSliceK at h
  split at h
  · rename_i e hu
    split at h
    · rename_i k z hk hz
      obtain ⟨h0, hzl, hb, es, hes, hn, hK⟩ := h
      refine Step.of_value fun a w I hΓ => ?_
      obtain ⟨v, hv, hvz⟩ := run_tzr (w := w) hz
      have hvs : v.cells.size = k := by have := congrArg List.length hvz; simpa [hzl] using this
      obtain ⟨q, arr', xs, f1, f2, f3⟩ := partsE_spec (w := w) (I := I) n (k := k) (arr := (Array.range (n * k)).map (v.cells[· % v.cells.size]!)) (vals := parts.toList.map fun p => (p.1, a.eval p.2)) hes (by simp) (by omega) (by simp)
        (by
          have := hΓ.evs (parts.toList.map (·.2))
          simpa [List.map_map, Function.comp_def] using this)
      have hfl := flatten_len (fun e' he => (q e' he).1)
      have hxl : xs.length = n * k := by rw [reps_length f2, hfl, hn]
      have harr : arr'.toList = xs := by
        rw [f3, hxl]
        simp
      have hsz : arr'.size = n * k := by rw [← hxl, ← harr]; simp
      have htk : arr'.toList.take (es.length * k) = xs := by rw [harr, hn, ← hxl, List.take_length]
      have hmx : n ≤ maxLen := by
        have := Nat.le_trans (Nat.le_mul_of_pos_right n h0) hb
        simp only [maxLen]; omega
      obtain ⟨I', g1, g2, g3⟩ := hΓ.2.newRow arr' e k h0 es n hsz (by omega) hmx (fun e' he => (q e' he).1) (by
        rw [htk]
        refine one_of_reps f2 fun c hc => ?_
        obtain ⟨e', he', hce⟩ := List.mem_flatten.1 hc
        exact okC_spec (q e' he').2 c hce) (by rw [htk]; exact f2)
      refine ⟨_, _, _, I', ?_, ⟨(hΓ.1.mono g2).put o.dst (dstOk_spec hd) g3, g1.put _ _⟩, hK _⟩
      simp only [execOp, ho, Instr.buildSlice, newRow]
      have hb' : ¬ (n * k > 2 ^ 24) := by omega
      have e0 : (parts.map fun x => (x.1, a.eval x.2)).toList = parts.toList.map fun p => (p.1, a.eval p.2) := by simp
      by_cases hnk : n * k = 0
      · have f1' : Instr.fill (fun i => some (i * k, k)) (Array.map (fun x => (#[] : Array Value)[x % (#[] : Array Value).size]!) (Array.range 0)) (parts.toList.map fun p => (p.1, a.eval p.2)) = some arr' := by
          rw [hnk, Array.range_zero', Array.map_empty] at f1
          rw [Array.range_zero', Array.map_empty]; exact f1
        simp only [Sem.run_bind, run_underlying hu, Result.andThen_ok, run_tsz hk, hnk, show ¬ (0 > 2 ^ 24) from by omega, if_false, if_true, e0, f1', run_newObj, Sem.run_pure, World.alloc_eq, hn]
      · simp only [Sem.run_bind, run_underlying hu, Result.andThen_ok, run_tsz hk, hb', if_false, hnk, hv, e0, f1, run_newObj, Sem.run_pure, World.alloc_eq, hn]
    · exact h.elim
  · exact h.elim

end Go.VL

/- The V logic, part 12: append onto an owned row. -/
namespace Go.VL
open Go.RowKit

theorem one_cell' {x : Value} (h : one x) : x.oneCell' = true := by cases x <;> simp_all [one, Value.oneCell']

theorem run_append_zero {P : Program} {w : World} {t ty e : TypeId} {k : Nat} (ht : P.underlying t = some (.slice e)) (hk : tsz P e = some k) (base : Option Addr) (n cap : Nat) (hn : n ≤ cap) (a : Option Addr) (c : Nat) :
    (Builtin.append_ #[t, t] ty #[.slice base n cap, .slice a 0 c]).run P w = .ok (.slice base n cap) w := by
  cases a <;> cases base <;> simp [Builtin.append_, run_underlying ht, run_tsz hk, Builtin.lenOf, hn, Builtin.firstCells, loadCells, loadCellsFrom, storeCells]

theorem size_zc (z : Array Value) (n : Nat) : (Builtin.zeroCells z n).size = n * z.size := by simp [Builtin.zeroCells]

theorem ΓW.addNil {C S w I} (h : ΓW C S w I) (k : Nat) (hk : 0 < k) (e : TypeId) : ΓW C (S.addRow ⟨.slice none 0 0, k, e⟩) w I := by
  have hb : blks S.boxes ((⟨.slice none 0 0, k, e⟩ : Row) :: S.rows) = blks S.boxes S.rows := by simp only [blks, List.filterMap_cons, Row.blk, Value.ownBlock]
  refine ⟨⟨h.heap.bx, fun r hr => ?_, by rw [St.addRow, hb]; exact h.heap.nodup, h.heap.inn⟩, by rw [St.addRow, hb]; exact h.mine, h.keeps, h.lo⟩
  rcases List.mem_cons.1 hr with rfl | hr
  · exact ⟨hk, ⟨e, [], by simp [slen], .inl ⟨rfl, rfl⟩⟩, fun g hg => by simp [Value.ownBlock] at hg⟩
  · exact h.heap.rw r hr

end Go.VL

/- The V logic, part A (between 12 and 13): what a drawn region may do, slice literals among it; regions that draw. -/
namespace Go.VL
open Go.RowKit

def buildSliceD (P : Program) (t : TypeId) (n : Nat) (parts : List (Nat × V)) (k : V → Prop) : Prop :=
  match P.underlying t with
  | some (.slice e) => match tsz P e, tzr P e with
    | some c, some z => 0 < c ∧ z.length = c ∧ n * c ≤ 16777216 ∧ ∃ es, partsE c 0 parts = some es ∧ es.length = n ∧ k (.list none c es)
    | _, _ => False
  | _ => False

theorem det_buildSlice {C : Ctx} {S : St} {o : Oper} {k : V → Prop} {t : TypeId} {n : Nat} {parts : Array (Nat × Operand)} (ho : o.op = .buildSlice t n parts)
    (h : buildSliceD C.P t n (parts.toList.map fun p => (p.1, VL.ev S.σ p.2)) k) : ∃ v, DetOp C S o v ∧ k v := by
  unfold buildSliceD at h
  split at h
  · rename_i e hu
    split at h
    · rename_i c z hk hz
      obtain ⟨h0, hzl, hb, es, hes, hn, hK⟩ := h
      refine ⟨_, fun a w I hR hW => ?_, hK⟩
      obtain ⟨v, hv, hvz⟩ := run_tzr (w := w) hz
      have hvs : v.cells.size = c := by have := congrArg List.length hvz; simpa [hzl] using this
      obtain ⟨q, arr', xs, f1, f2, f3⟩ := partsE_spec (w := w) (I := I) n (k := c) (arr := (Array.range (n * c)).map (v.cells[· % v.cells.size]!)) (vals := parts.toList.map fun p => (p.1, a.eval p.2)) hes (by simp) (by omega) (by simp)
        (by
          have := reps_map hR (parts.toList.map (·.2)) (fun x hx => mem_tm (by simp only [ho, Op.operands]; simpa using hx))
          simpa [List.map_map, Function.comp_def] using this)
      have hfl := flatten_len (fun e' he => (q e' he).1)
      have hxl : xs.length = n * c := by rw [reps_length f2, hfl, hn]
      have harr : arr'.toList = xs := by
        rw [f3, hxl]
        simp
      have hsz : arr'.size = n * c := by rw [← hxl, ← harr]; simp
      have htk : arr'.toList.take (es.length * c) = xs := by rw [harr, hn, ← hxl, List.take_length]
      have hmx : n ≤ maxLen := by
        have := Nat.le_trans (Nat.le_mul_of_pos_right n h0) hb
        simp only [maxLen]; omega
      obtain ⟨I', g1, g2, g3⟩ := hW.newRow arr' e c h0 es n hsz (by omega) hmx (fun e' he => (q e' he).1) (by
        rw [htk]
        refine one_of_reps f2 fun c hc => ?_
        obtain ⟨e', he', hce⟩ := List.mem_flatten.1 hc
        exact okC_spec (q e' he').2 c hce) (by rw [htk]; exact f2)
      have g4 : ΓW C S (w.alloc (.cells arr' e)) I' := g1.drop rfl
      have run : ((execOp a.eval o).run C.P w) = .ok (.value (.slice (some ⟨w.heap.size, 0, none⟩) es.length n)) (w.alloc (.cells arr' e)) := by
        simp only [execOp, ho, Instr.buildSlice, newRow]
        have hb' : ¬ (n * c > 2 ^ 24) := by omega
        have e0 : (parts.map fun x => (x.1, a.eval x.2)).toList = parts.toList.map fun p => (p.1, a.eval p.2) := by simp
        by_cases hnk : n * c = 0
        · have f1' : Instr.fill (fun i => some (i * c, c)) (Array.map (fun x => (#[] : Array Value)[x % (#[] : Array Value).size]!) (Array.range 0)) (parts.toList.map fun p => (p.1, a.eval p.2)) = some arr' := by
            rw [hnk, Array.range_zero', Array.map_empty] at f1
            rw [Array.range_zero', Array.map_empty]; exact f1
          simp only [Sem.run_bind, run_underlying hu, Result.andThen_ok, run_tsz hk, hnk, show ¬ (0 > 2 ^ 24) from by omega, if_false, if_true, e0, f1', run_newObj, Sem.run_pure, World.alloc_eq, hn]
        · simp only [Sem.run_bind, run_underlying hu, Result.andThen_ok, run_tsz hk, hb', if_false, hnk, hv, e0, f1, run_newObj, Sem.run_pure, World.alloc_eq, hn]
      rw [run]
      refine ⟨I', g4, g2, ?_⟩
      simp only [V.rep] at g3 ⊢
      exact ⟨(fun y hy => by cases hy), g3.2⟩
    · exact h.elim
  · exact h.elim

/-- What an operation of a drawn region yields. -/
def detG (P : Program) (S : St) (o : Oper) (k : V → Prop) : Prop :=
  match o.op with
  | .buildSlice t n parts => buildSliceD P t n (parts.toList.map fun p => (p.1, VL.ev S.σ p.2)) k
  | _ => detF P S o k

theorem detG_spec {C : Ctx} {S : St} {o : Oper} {k : V → Prop} (h : detG C.P S o k) : ∃ v, DetOp C S o v ∧ k v := by
  unfold detG at h
  split at h
  · rename_i ho; exact det_buildSlice ho h
  · exact detF_spec h

section
variable {C : Ctx} {ops : Array Oper} {md : Region.Mode}

/-- The operations before the tail, in the order of the text. -/
def dOps (P : Program) (ops : Array Oper) (K : St → Prop) : List Oper → St → Prop
  | [], S => K S
  | o :: rest, S => match wantA ops S.σ o with
    | some true => detG P S o fun v => dOps P ops K rest (S.put o.dst v)
    | some false => dOps P ops K rest (S.put o.dst skipV)
    | none => False

theorem yields_of_dOps {K : St → Prop} {o : Oper} {rest : List Oper} {S : St} (h : dOps C.P ops K (o :: rest) S) : ∃ v, YieldsA C ops o v S ∧ dOps C.P ops K rest (S.put o.dst v) := by
  simp only [dOps] at h
  split at h
  · rename_i hw
    obtain ⟨v, hv, hk⟩ := detG_spec h
    exact ⟨v, .inl ⟨hw, hv⟩, hk⟩
  · rename_i hw
    exact ⟨_, .inr ⟨hw, rfl⟩, h⟩
  · exact h.elim

theorem wpAnyLA_lex {n g : Nat} {Lq : St → Prop} (hn : (n < ops.size ∧ Region.sinkB md ops n = true ∧ Region.chainB md ops n = true) ∨ n = ops.size) :
    ∀ (l : List Oper) (k : Nat) (listed : Array Bool) (S : St), (∀ j, j < l.length → l[j]? = ops[k + j]?) → (∀ o ∈ l, dstOk C.N o = true) → k + l.length = n → HeadInv md ops n listed →
    Region.lexHead md ops g l.length k listed = true → dOps C.P ops Lq l S →
    wpAnyLA C md ops n (fun listed' S' => Region.seqB md ops g n listed' = true ∧ Lq S') l.length listed S
  | [], k, listed, S, _, _, hk, _, hB, h => by
    have : k = n := by simpa using hk
    subst this
    exact ⟨by simpa [Region.lexHead] using hB, h⟩
  | o :: l, k, listed, S, hl, hdl, hk, inv, hB, h => by
    have h0 : ops[k]? = some o := by simpa using (hl 0 (by simp)).symm
    simp only [List.length_cons, Region.lexHead, Bool.and_eq_true] at hB
    obtain ⟨⟨hr, hf⟩, hB'⟩ := hB
    have hkn : k < n := by simp only [List.length_cons] at hk; omega
    have hr' : k ∈ Region.ready md ops listed := by simpa using hr
    obtain ⟨v, hy, hK⟩ := yields_of_dOps h
    exact wpAnyLA_first h0 (hdl o List.mem_cons_self) hn hkn (fun listed' S' hL => seqB_ready hL.1) l.length listed S inv (Region.free_spec h0 hf) hr' hy
      (wpAnyLA_lex hn l (k + 1) _ _ (fun j hj => by have := hl (j + 1) (by simp; omega); simpa [Nat.add_assoc, Nat.add_comm 1 j] using this) (fun o' ho' => hdl o' (List.mem_cons_of_mem _ ho')) (by simp only [List.length_cons] at hk; omega) (inv.set hr' hkn) hB' hK)

/-- The check on a drawn region: n operations that only read, then the tail. -/
def drawB (ops : Array Oper) (n : Nat) : Bool :=
  Region.noSelect ops && (decide (n < ops.size) && Region.sinkB .any ops n && Region.chainB .any ops n || decide (n = ops.size)) && Region.lexHead .any ops (ops.size - n) n 0 (Array.replicate ops.size false)

/-- A region that draws its order. -/
theorem wp_region_draw {id : Nat} {Q : Exit → Act → World → Prop} {S : St} {a : Act} {w : World} {I : Cells} {l : List Oper} (n : Nat) (hm : C.P.follows .mixedOrders = true) (hB : drawB l.toArray n = true) (hdst : ∀ o ∈ l, dstOk C.N o = true) (hΓ : Γ C S a w I)
    (T : St → Prop) (hT : ∀ S' a' w' I', Γ C S' a' w' I' → T S' → wpList C.P l.toArray Q (l.drop n) a' w') (h : dOps C.P l.toArray T (l.take n) S) : (Code.region id l.toArray true).wp C.P Q a w := by
  simp only [drawB, Bool.and_eq_true, Bool.or_eq_true, decide_eq_true_eq] at hB
  obtain ⟨⟨hsel, hn⟩, hlex⟩ := hB
  have hn' : n ≤ l.length := by
    rcases hn with hn | hn
    · have := hn.1.1; simp at this; omega
    · simp at hn; omega
  have htl : (l.take n).length = n := by simp; omega
  have hdl : (l.drop n).length = l.toArray.size - n := by simp
  have inv0 : HeadInv .any l.toArray n (Array.replicate l.toArray.size false) :=
    ⟨by simp, fun j oj _ hl => (by rw [getD_replicate_false] at hl; cases hl), fun t _ ht => getD_in (by simpa using ht) (getD_replicate_false _ _)⟩
  have H := wpAnyLA_lex (C := C) (md := .any) (g := l.toArray.size - n) (Lq := T) (n := n) (by rcases hn with hn | hn; exact .inl ⟨hn.1.1, hn.1.2, hn.2⟩; exact .inr hn) (l.take n) 0 _ S (fun j hj => by
    have hj' : j < n := by rw [htl] at hj; exact hj
    simp [hj']) (fun o ho => hdst o (List.mem_of_mem_take ho)) (by simpa using htl) inv0 (by rw [htl]; exact hlex) h
  refine wp_region_any hm ?_
  have hΓ' : Γ C S a { w with drawn := w.drawn + 1 } I := ⟨hΓ.1.mono (Keeps.drew (fun _ => True) w I).stays, hΓ.2.quiet (fun _ => True) (fun _ _ => trivial) (Keeps.drew _ w I) hΓ.2.heap.inn⟩
  have := wpAny_of_headA (Q' := Q) (g := l.toArray.size - n) (fun listed S' a' w' I' hΓ' hL => by
    have := wpAny_of_seq (md := .any) (Q' := Q) (l.drop n) n listed a' w' (fun j => by simp [List.getElem?_drop]) (by rw [hdl]; exact hL.1) (hT _ _ _ _ hΓ' hL.2)
    rwa [hdl] at this) _ _ _ _ _ _ hΓ' H
  rw [htl, show n + (l.toArray.size - n) = l.toArray.size by omega] at this
  exact this

end
end Go.VL

/- The V logic, part B: stretches of boxes that are written: what an append or a copy reads; append, copy, make. -/
namespace Go.VL
open Go.RowKit

def St.setBoxes (S : St) (bs : List (Nat × B)) : St := { S with boxes := bs }
def St.setRows (S : St) (rs : List Row) : St := { S with rows := rs }

theorem getB_mem' {bs : List (Nat × B)} {b : Nat} {cs : List V} (h : getB bs b = some cs) : (b, .c cs) ∈ bs := getB_mem h

def bytesV (s : ByteArray) : List V := s.data.toList.map fun b => .lit (.int .u8 b.toNat)

/-- What the second operand of an append or a copy yields: how many elements, and their cells. -/
def srcK (P : Program) (S : St) (tx : TypeId) (k : Nat) (x : V) (K : Nat → List V → Prop) : Prop :=
  match P.underlying tx, x with
  | some (.slice _), .list _ k' es => k' = k ∧ K es.length es.flatten
  | some (.slice _), .lit (.slice none 0 0) => K 0 []
  | some (.slice _), .lit (.slice (some ⟨b, o, none⟩) n _) => match getB S.boxes b with
    | some cs => o + n * k ≤ cs.length ∧ K n ((cs.drop o).take (n * k))
    | none => False
  | some .string, .lit (.string s) => k = 1 ∧ K s.size (bytesV s)
  | _, _ => False

/-- The operand as the kit's laws want it. -/
structure SrcOk (C : Ctx) (S : St) (tx : TypeId) (k : Nat) (x : V) (n : Nat) (fs : List V) : Prop where
  get : ∀ w I xv, ΓW C S w I → V.rep w I x xv → ∃ news, V.reps w I fs news ∧ (∀ u ∈ news, one u) ∧ Src C.P k tx xv n news w ∧ ∀ r, r ≤ n → (Builtin.firstCells k r xv).run C.P w = .ok (news.take (r * k)).toArray w

theorem reps_bytes {w I} (s : ByteArray) : V.reps w I (bytesV s) (byteCells s) := by
  unfold bytesV byteCells
  generalize s.data.toList = l
  induction l with
  | nil => simp [V.reps]
  | cons b r ih => simp only [List.map_cons, V.reps, V.rep]; exact ⟨trivial, ih⟩

theorem srcK_spec {C : Ctx} {S : St} {tx : TypeId} {k : Nat} {x : V} {K : Nat → List V → Prop} (h : srcK C.P S tx k x K) : ∃ n fs, K n fs ∧ SrcOk C S tx k x n fs := by
  unfold srcK at h
  split at h
  · rename_i e own k' es hu
    obtain ⟨rfl, hK⟩ := h
    refine ⟨_, _, hK, ⟨fun w I xv hW hr => ?_⟩⟩
    simp only [V.rep] at hr
    obtain ⟨_, a, c, rfl, hc, hl⟩ := hr
    rcases hl with rfl | ⟨b, o, rfl, hl⟩
    · refine ⟨[], by simp [V.reps], by simp, ?_, fun r hr => ?_⟩
      · cases a with
        | none => simpa using Src.ofNil (P := C.P) w (size := k') hu c
        | some a => simpa using Src.ofSlice (P := C.P) w (size := k') hu a 0 c [] (by simp) (by simp) (by simp)
      · obtain rfl : r = 0 := by simpa using hr
        cases a with
        | none => simpa using run_firstCells_none (P := C.P) w k' 0 0 c
        | some a => simpa using run_firstCells_some (P := C.P) w k' 0 a 0 c [] (by simp) (by simp)
    · obtain ⟨q, news, r1, r2, r3⟩ := lies_vals hl
      have hlen : news.length = es.length * k' := by rw [reps_length r1, flatten_len q]
      refine ⟨news, r1, r2, Src.ofSlice (P := C.P) w hu ⟨b, o, none⟩ es.length c news hlen (fun j u hj => by rw [Addr.add_lit]; exact (r3 j u hj).1) (fun u hu' => one_cell' (r2 u hu')), fun r hr => ?_⟩
      have hrk : r * k' ≤ es.length * k' := Nat.mul_le_mul_right _ hr
      refine run_firstCells_some (P := C.P) w k' r ⟨b, o, none⟩ es.length c _ (by simp; omega) fun j u hj => ?_
      rw [Addr.add_lit]
      rw [List.getElem?_take] at hj
      split at hj
      · exact (r3 j u hj).1
      · cases hj
  · rename_i e hu
    refine ⟨0, [], h, ⟨fun w I xv hW hr => ?_⟩⟩
    simp only [V.rep] at hr
    subst hr
    exact ⟨[], by simp [V.reps], by simp, Src.ofNil (P := C.P) w (size := k) hu 0, fun r hr => by
      obtain rfl : r = 0 := by omega
      simpa using run_firstCells_none (P := C.P) w k 0 0 0⟩
  · rename_i e b o n c hu
    split at h
    · rename_i cs hb
      obtain ⟨hle, hK⟩ := h
      refine ⟨n, _, hK, ⟨fun w I xv hW hr => ?_⟩⟩
      simp only [V.rep] at hr
      subst hr
      obtain ⟨arr, te, q1, q2, q3, q4⟩ := hW.heap.bx _ (getB_mem hb)
      have hla : arr.size = cs.length := by have := reps_length q3; simpa using this
      have cell : ∀ m j u, ((arr.toList.drop o).take m)[j]? = some u → w.cell? ((⟨b, o, none⟩ : Addr).add j) = some u := fun m j u hj => by
        rw [Addr.add_lit]
        rw [List.getElem?_take] at hj
        split at hj
        · rw [List.getElem?_drop] at hj
          simp only [World.cell?, q1, Option.isSome_none, Bool.false_eq_true, if_false]
          simpa using hj
        · cases hj
      refine ⟨(arr.toList.drop o).take (n * k), reps_take _ (reps_drop _ q3), fun u hu' => q2 u (List.mem_of_mem_drop (List.mem_of_mem_take hu')), ?_, fun r hr => ?_⟩
      · exact Src.ofSlice (P := C.P) w hu ⟨b, o, none⟩ n c _ (by simp; omega) (cell _) fun u hu' => one_cell' (q2 u (List.mem_of_mem_drop (List.mem_of_mem_take hu')))
      · have hrk : r * k ≤ n * k := Nat.mul_le_mul_right _ hr
        rw [List.take_take, Nat.min_eq_left hrk]
        exact run_firstCells_some (P := C.P) w k r ⟨b, o, none⟩ n c _ (by simp; omega) (cell _)
    · exact h.elim
  · rename_i s hu
    obtain ⟨rfl, hK⟩ := h
    refine ⟨_, _, hK, ⟨fun w I xv hW hr => ?_⟩⟩
    simp only [V.rep] at hr
    subst hr
    refine ⟨byteCells s, reps_bytes s, fun u hu' => ?_, Src.ofString (P := C.P) w hu s, fun r hr => ?_⟩
    · obtain ⟨b, _, rfl⟩ := List.mem_map.1 hu'
      trivial
    · simp only [Builtin.firstCells, Sem.run_pure, Nat.mul_one]
      congr 1
      apply Array.ext'
      simp [byteCells, ByteArray.data_extract]
  · exact h.elim

theorem run_append_room_own {P : Program} (w : World) (t tx ty e : TypeId) (i : TypeInfo) (ht : P.underlying t = some (.slice e)) (hi : P.info? e = some i) (b off sLen sCap : Nat) (x : Value) (n : Nat) (news : List Value) (hs : Src P i.size tx x n news w)
    (hroom : sLen + n ≤ sCap) (arr : Array Value) (te : TypeId) (hb : w.heap[b]? = some (.cells arr te (0, 0))) (hfit : off + sLen * i.size + news.length ≤ arr.size) :
    (Builtin.append_ #[t, tx] ty #[.slice (some ⟨b, off, none⟩) sLen sCap, x]).run P w = .ok (.slice (some ⟨b, off, none⟩) (sLen + n) sCap)
      (w.setRow b (arr.toList.take (off + sLen * i.size) ++ news ++ arr.toList.drop (off + sLen * i.size + news.length)).toArray) := by
  have hst := run_storeCells_at (P := P) b (off + sLen * i.size) te news 0 arr w hb (by simpa using hfit) hs.one
  simp only [Nat.add_zero] at hst
  rcases hs.kind with ⟨e', hk⟩ | hk <;> simp [Builtin.append_, run_underlying ht, run_underlying hk, sizeOf, typeInfo, hi, hs.len, hroom, hs.cells, Addr.add_lit, hst]

def anys (n : Nat) : List V := List.replicate n .any
theorem reps_anys {w I} : ∀ {n : Nat} {xs : List Value}, xs.length = n → V.reps w I (anys n) xs
  | 0, [], _ => by simp [anys, V.reps]
  | n + 1, x :: xs, h => by
    have := reps_anys (w := w) (I := I) (n := n) (xs := xs) (by simpa using h)
    simp only [anys, List.replicate_succ, V.reps, V.rep] at this ⊢
    exact ⟨trivial, this⟩
  | 0, _ :: _, h => by simp at h
  | _ + 1, [], h => by simp at h

/-- One or the other. -/
def onIf (p : Prop) [Decidable p] (A B : Prop) : Prop := if p then A else B

/-- An append onto a stretch of a box (or onto nil): in place, or into a new box. -/
def appMD (S : St) (d : Option Nat) (k by_ : Nat) (s : V) (m : Nat) (fs : List V) (K : St → Prop) : Prop :=
  match s with
  | .lit (.slice none 0 0) => onIf (m = 0) (K (S.put d s)) (m * by_ ≤ 140737488355328 ∧ ∀ b c, b ∉ blks S.boxes S.rows → m ≤ c → K ((S.addBox b (fs ++ anys ((c - m) * k))).put d (.lit (.slice (some ⟨b, 0, none⟩) m c))))
  | .lit (.slice (some ⟨b, o, none⟩) n c) => match getB S.boxes b with
    | some cs => o + c * k ≤ cs.length ∧ n ≤ c ∧ onIf (n + m ≤ c) (K ((S.setBoxes (setB S.boxes b (cs.take (o + n * k) ++ fs ++ cs.drop (o + n * k + m * k)))).put d (.lit (.slice (some ⟨b, o, none⟩) (n + m) c))))
        ((n + m) * by_ ≤ 140737488355328 ∧ ∀ b' c', b' ∉ blks S.boxes S.rows → n + m ≤ c' → K ((S.addBox b' ((cs.drop o).take (n * k) ++ fs ++ anys ((c' - (n + m)) * k))).put d (.lit (.slice (some ⟨b', 0, none⟩) (n + m) c'))))
    | none => False
  | _ => False
def appMK (P : Program) (S : St) (d : Option Nat) (t tx : TypeId) (s x : V) (K : St → Prop) : Prop :=
  match P.underlying t with
  | some (.slice e) => match tsz P e, tby P e, tzr P e with
    | some k, some by_, some z => 0 < by_ ∧ z.length = k ∧ okC (z.map .lit) = true ∧ srcK P S tx k x fun m fs => appMD S d k by_ s m fs K
    | _, _, _ => False
  | _ => False

theorem infos {P : Program} {e : TypeId} {k by_ : Nat} {z : List Value} (hk : tsz P e = some k) (hby : tby P e = some by_) (hz : tzr P e = some z) : ∃ i, P.info? e = some i ∧ i.size = k ∧ i.bytes = by_ ∧ ∃ zv, i.zero = some zv ∧ zv.cells.toList = z := by
  unfold tsz at hk; unfold tby at hby; unfold tzr at hz
  cases hinf : P.info? e with
  | none => simp [hinf] at hk
  | some i =>
    cases hzz : i.zero with
    | none => simp [hinf, hzz] at hz
    | some zv => simp [hinf, hzz] at hk hby hz; exact ⟨i, rfl, hk, hby, zv, hzz ▸ rfl, hz⟩

theorem one_zero {z : List Value} (h : okC (z.map .lit) = true) : ∀ x ∈ z, one x := one_of_reps (w := default) (I := fun _ _ => False) (reps_lits z) (okC_spec h)

theorem mem_zeroCells {z : Array Value} {n : Nat} {x : Value} (hx : x ∈ (Builtin.zeroCells z n).toList) : x ∈ z.toList := by
  simp only [Builtin.zeroCells, Array.toList_map, Array.toList_range, List.mem_map, List.mem_range] at hx
  obtain ⟨i, hi, rfl⟩ := hx
  have hp : 0 < z.size := by
    rcases Nat.eq_zero_or_pos z.size with h | h
    · rw [h] at hi; simp at hi
    · exact h
  have : i % z.size < z.size := Nat.mod_lt _ hp
  rw [getElem!_pos z (i % z.size) this]
  simp

/-- A new box, its slice put into a slot. -/
theorem Γ.boxedS {C S a w I} (h : Γ C S a w I) (d : Option Nat) (hd : ∀ i, d = some i → i < C.N) (arr : Array Value) (e : TypeId) (cs : List V) (n c : Nat) (h1 : ∀ x ∈ arr.toList, one x) (h2 : V.reps w I cs arr.toList) :
    Γ C ((S.addBox w.heap.size cs).put d (.lit (.slice (some ⟨w.heap.size, 0, none⟩) n c))) (a.put d (.slice (some ⟨w.heap.size, 0, none⟩) n c)) (w.alloc (.cells arr e)) I :=
  ⟨(h.1.mono (Keeps.new (.cells arr e) h.2.heap.inn).stays).put d hd (by simp only [V.rep]), (h.2.box arr e cs h1 h2).put _ _⟩

theorem Γ.drew {C S a w I} (h : Γ C S a w I) : Γ C S a w.drew I :=
  ⟨h.1.mono (Keeps.drew (fun _ => True) w I).stays, h.2.quiet (fun _ => True) (fun _ _ => trivial) (Keeps.drew _ w I) h.2.heap.inn⟩

theorem step_appM {C S} {o : Oper} {c : Call} {s x : Operand} {t tx : TypeId} {K : St → Prop} (ho : o.op = .call c) (hc : c.callee = .builtin .append) (ha : c.args.toList = [s, x]) (ht : c.argTypes.toList = [t, tx]) (hd : dstOk C.N o = true)
    (h : appMK C.P S o.dst t tx (VL.ev S.σ s) (VL.ev S.σ x) K) : Step C S o K := by
  have ha' : c.args = #[s, x] := by rw [← Array.toArray_toList (xs := c.args), ha]
  have ht' : c.argTypes = #[t, tx] := by rw [← Array.toArray_toList (xs := c.argTypes), ht]
  unfold appMK at h
  split at h
  · rename_i e hu
    split at h
    · rename_i k by_ z hk hby hz
      obtain ⟨hb0, hzl, hoz, h⟩ := h
      obtain ⟨m, fs, h, src⟩ := srcK_spec h
      obtain ⟨i, hi, rfl, rfl, zv, hiz, rfl⟩ := infos hk hby hz
      have hzs : zv.cells.size = i.size := by simpa using hzl
      have hone := one_zero hoz
      refine Step.of_value fun a w I hΓ => ?_
      obtain ⟨news, n1, n2, hsrc, _⟩ := src.get w I _ hΓ.2 (hΓ.ev x)
      have hnl := hsrc.newsLen
      have hfl : fs.length = m * i.size := by rw [← hnl, reps_length n1]
      have runs : ∀ y w', (Builtin.append_ #[t, tx] o.type #[a.eval s, a.eval x]).run C.P w = .ok y w' → (execOp a.eval o).run C.P w = .ok (.value y) w' := fun y w' hr => by
        simp only [execOp, ho, resolve, hc, ha', ht']
        simp [invoke, builtin, hr]
      have grow : ∀ (base : Option Addr) (n cc : Nat) (olds : List Value) (ovs : List V), a.eval s = .slice base n cc → (Builtin.firstCells i.size n (.slice base n cc)).run C.P w.drew = .ok olds.toArray w.drew → V.reps w I ovs olds → (∀ u ∈ olds, one u) →
          olds.length = n * i.size → cc < n + m → (n + m) * i.bytes ≤ 140737488355328 → (∀ b' c', b' ∉ blks S.boxes S.rows → n + m ≤ c' → K ((S.addBox b' (ovs ++ fs ++ anys ((c' - (n + m)) * i.size))).put o.dst (.lit (.slice (some ⟨b', 0, none⟩) (n + m) c')))) →
          ∃ y w' S' I', (execOp a.eval o).run C.P w = .ok (.value y) w' ∧ Γ C S' (a.put o.dst y) w' I' ∧ K S' := by
        intro base n cc olds ovs hs hold hro hoo hol hg hbound hK
        have hmx : n + m ≤ 140737488355328 := Nat.le_trans (Nat.le_mul_of_pos_right _ hb0) hbound
        have hrun := run_append_grow_src (P := C.P) w t tx o.type e i zv hu hi hiz base n cc olds hold (a.eval x) m news hsrc hg (by omega) (growslice_fits (by omega) hbound)
        rw [← hs] at hrun
        have hdr := hΓ.drew
        refine ⟨_, _, _, I, runs _ _ hrun, ?_, hK _ (grownCap w (n + m) cc e) (by simpa using hdr.2.fresh) (grownCap_ge w (n + m) cc e)⟩
        have := hdr.boxedS o.dst (dstOk_spec hd) ((olds ++ news).toArray ++ Builtin.zeroCells zv.cells (grownCap w (n + m) cc e - (n + m))) e (ovs ++ fs ++ anys ((grownCap w (n + m) cc e - (n + m)) * i.size)) (n + m) (grownCap w (n + m) cc e)
          (fun u hu' => by
            simp only [Array.toList_append, List.mem_append] at hu'
            rcases hu' with (hu' | hu') | hu'
            · exact hoo u hu'
            · exact n2 u hu'
            · exact hone u (mem_zeroCells hu'))
          (by
            have hst := (Keeps.drew (fun _ => True) w I).stays
            simp only [Array.toList_append]
            refine reps_append (reps_append (V.reps_mono hst _ _ hro) (V.reps_mono hst _ _ n1)) (reps_anys ?_)
            have := size_zc zv.cells (grownCap w (n + m) cc e - (n + m))
            rw [hzs] at this
            simpa using this)
        simpa using this
      unfold appMD at h
      split at h
      · rename_i hs
        have rs := hΓ.ev s
        rw [hs] at rs
        simp only [V.rep] at rs
        unfold onIf at h
        split at h
        · rename_i hm
          subst hm
          have hn0 : news = [] := List.eq_nil_of_length_eq_zero (by rw [hnl]; simp)
          subst hn0
          refine ⟨_, w, _, I, runs (.slice none 0 0) w ?_, ⟨hΓ.1.put o.dst (dstOk_spec hd) (v := VL.ev S.σ s) (by rw [hs]; simp only [V.rep]), hΓ.2.put _ _⟩, h⟩
          rw [rs]
          rcases hsrc.kind with ⟨e', hk'⟩ | hk' <;> simp [Builtin.append_, run_underlying hu, run_underlying hk', sizeOf, typeInfo, hi, hsrc.len, hsrc.cells]
        · rename_i hm
          obtain ⟨hbd, hK⟩ := h
          have := grow none 0 0 [] [] rs (run_firstCells_none w.drew i.size 0 0 0) (by simp [V.reps]) (by simp) (by simp) (by omega) (by simpa using hbd) (fun b' c' hb' hc' => by simpa using hK b' c' hb' (by omega))
          exact this
      · rename_i b off n cc hs
        split at h
        · rename_i cs hb
          obtain ⟨hle, hnc, h⟩ := h
          have rs := hΓ.ev s
          rw [hs] at rs
          simp only [V.rep] at rs
          have hm := getB_mem hb
          obtain ⟨arr, te, q1, q2, q3, q4⟩ := hΓ.2.heap.bx _ hm
          have hla : arr.size = cs.length := by have := reps_length q3; simpa using this
          have hnk : n * i.size ≤ cc * i.size := Nat.mul_le_mul_right _ hnc
          unfold onIf at h
          split at h
          · rename_i hroom
            have hfit : off + n * i.size + news.length ≤ arr.size := by
              have : (n + m) * i.size ≤ cc * i.size := Nat.mul_le_mul_right _ hroom
              rw [Nat.add_mul] at this
              omega
            have hrun := run_append_room_own (P := C.P) w t tx o.type e i hu hi b off n cc (a.eval x) m news hsrc hroom arr te q1 hfit
            rw [← rs] at hrun
            obtain ⟨hW, hS⟩ := hΓ.2.write (ds := cs.take (off + n * i.size) ++ fs ++ cs.drop (off + n * i.size + m * i.size)) (arr' := (arr.toList.take (off + n * i.size) ++ news ++ arr.toList.drop (off + n * i.size + news.length)).toArray) (List.mem_map.2 ⟨_, hm, rfl⟩) q1
              (fun u hu' => by
                simp only [List.mem_append] at hu'
                rcases hu' with (hu' | hu') | hu'
                · exact q2 u (List.mem_of_mem_take hu')
                · exact n2 u hu'
                · exact q2 u (List.mem_of_mem_drop hu'))
              (by rw [hnl]; exact reps_append (reps_append (reps_take _ q3) n1) (reps_drop _ q3))
            exact ⟨_, _, _, I, runs _ _ hrun, ⟨(hΓ.1.mono hS).put o.dst (dstOk_spec hd) (by simp only [V.rep]), hW.put _ _⟩, h⟩
          · rename_i hroom
            obtain ⟨hbd, hK⟩ := h
            refine grow (some ⟨b, off, none⟩) n cc ((arr.toList.drop off).take (n * i.size)) ((cs.drop off).take (n * i.size)) rs ?_ (reps_take _ (reps_drop _ q3)) (fun u hu' => q2 u (List.mem_of_mem_drop (List.mem_of_mem_take hu'))) (by simp; omega) (by omega) hbd hK
            refine run_firstCells_some w.drew i.size n ⟨b, off, none⟩ n cc _ (by simp; omega) fun j u hj => ?_
            rw [Addr.add_lit]
            rw [List.getElem?_take] at hj
            split at hj
            · rw [List.getElem?_drop] at hj
              have : w.drew.heap[b]? = some (.cells arr te (0, 0)) := q1
              simp only [World.cell?, this, Option.isSome_none, Bool.false_eq_true, if_false]
              simpa using hj
            · cases hj
        · exact h.elim
      · exact h.elim
    · exact h.elim
  · exact h.elim

end Go.VL

/- The V logic, part C: copy, make; an append that leaves open where the slice lies. -/
namespace Go.VL
open Go.RowKit

theorem ΓW.boxes {C S w I} (h : ΓW C S w I) (bs : List (Nat × B)) (h1 : ∀ p ∈ bs, BoxAt w I p.1 p.2) (h2 : (bs.map (·.1)).Nodup) (h3 : ∀ p ∈ bs, p.1 ∈ S.boxes.map (·.1)) : ΓW C (S.setBoxes bs) w I := by
  have hn := List.nodup_append.1 h.heap.nodup
  have hsub : ∀ b ∈ bs.map (·.1), b ∈ S.boxes.map (·.1) := fun b hb => by
    obtain ⟨p, hp, rfl⟩ := List.mem_map.1 hb
    exact h3 p hp
  refine ⟨⟨h1, h.heap.rw, ?_, h.heap.inn⟩, fun b hb => ?_, h.keeps, h.lo⟩
  · exact List.nodup_append.2 ⟨h2, hn.2.1, fun x hx y hy => hn.2.2 x (hsub x hx) y hy⟩
  · rcases List.mem_append.1 hb with hb | hb
    · exact h.mine b (List.mem_append.2 (.inl (hsub b hb)))
    · exact h.mine b (List.mem_append.2 (.inr hb))

theorem Γ.boxes {C S a w I} (h : Γ C S a w I) (bs : List (Nat × B)) (h1 : ∀ p ∈ bs, BoxAt w I p.1 p.2) (h2 : (bs.map (·.1)).Nodup) (h3 : ∀ p ∈ bs, p.1 ∈ S.boxes.map (·.1)) : Γ C (S.setBoxes bs) a w I := ⟨h.1, h.2.boxes bs h1 h2 h3⟩

def remB (bs : List (Nat × B)) (b : Nat) : List (Nat × B) := bs.filter fun p => !decide (p.1 = b)

theorem remB_mem {bs : List (Nat × B)} {b : Nat} {p : Nat × B} (h : p ∈ remB bs b) : p ∈ bs ∧ p.1 ≠ b := by simpa [remB] using h
theorem remB_keys {bs : List (Nat × B)} {b : Nat} (h : (bs.map (·.1)).Nodup) : ((remB bs b).map (·.1)).Nodup := h.sublist (List.filter_sublist.map _)
theorem setB_keep : ∀ {bs : List (Nat × B)} {b : Nat} {ds : List V} {p : Nat × B}, p ∈ bs → p.1 ≠ b → p ∈ setB bs b ds
  | (b', cs) :: r, b, ds, p, hp, hne => by
    unfold setB
    split
    · rename_i e; subst e
      rcases List.mem_cons.1 hp with rfl | hp
      · exact absurd rfl hne
      · exact List.mem_cons_of_mem _ hp
    · rcases List.mem_cons.1 hp with rfl | hp
      · exact List.mem_cons_self
      · exact List.mem_cons_of_mem _ (setB_keep hp hne)
  | [], _, _, _, hp, _ => by simp at hp
theorem setB_has : ∀ {bs : List (Nat × B)} {b : Nat} {cs ds : List V}, getB bs b = some cs → (b, .c ds) ∈ setB bs b ds
  | (b', cs') :: r, b, cs, ds, h => by
    unfold setB
    split
    · rename_i e; subst e; exact List.mem_cons_self
    · rename_i e
      refine List.mem_cons_of_mem _ (setB_has (cs := cs) ?_)
      cases cs' <;> simpa [getB, e] using h
  | [], _, _, _, h => by simp [getB] at h

theorem Step.weaken {C S} {o : Oper} {K K' : St → Prop} (h : Step C S o K') (hw : ∀ S' a w I, Γ C S' a w I → K' S' → ∃ S'', Γ C S'' a w I ∧ K S'') : Step C S o K :=
  fun a w I hΓ Q => Oper.wp_mono (fun a' w' ⟨S', I', h1, h2⟩ => by
    obtain ⟨S'', h3, h4⟩ := hw S' a' w' I' h1 h2
    exact ⟨S'', I', h3, h4⟩) (h a w I hΓ Q)

/-- An append onto a whole box (or onto nil): afterwards the slice lies in some box. -/
def appAK (P : Program) (S : St) (d : Option Nat) (t tx : TypeId) (s x : V) (K : St → Prop) : Prop :=
  match P.underlying t with
  | some (.slice e) => match tsz P e, tby P e, tzr P e with
    | some k, some by_, some z => 0 < by_ ∧ z.length = k ∧ okC (z.map .lit) = true ∧ srcK P S tx k x fun m fs =>
      match s with
      | .lit (.slice none 0 0) => 0 < m ∧ m * by_ ≤ 140737488355328 ∧ ∀ b c, b ∉ blks S.boxes S.rows → m ≤ c → K ((S.addBox b (fs ++ anys ((c - m) * k))).put d (.lit (.slice (some ⟨b, 0, none⟩) m c)))
      | .lit (.slice (some ⟨b, 0, none⟩) n c) => match getB S.boxes b with
        | some cs => cs.length = c * k ∧ n ≤ c ∧ (n + m) * by_ ≤ 140737488355328 ∧ ∀ b' c', b' ∉ blks (remB S.boxes b) S.rows → n + m ≤ c' →
            K ((S.setBoxes ((b', .c (cs.take (n * k) ++ fs ++ anys ((c' - (n + m)) * k))) :: remB S.boxes b)).put d (.lit (.slice (some ⟨b', 0, none⟩) (n + m) c')))
        | none => False
      | _ => False
    | _, _, _ => False
  | _ => False

theorem srcK_imp {P : Program} {S : St} {tx : TypeId} {k : Nat} {x : V} {K K' : Nat → List V → Prop} (h : srcK P S tx k x K) (hk : ∀ n fs, K n fs → K' n fs) : srcK P S tx k x K' := by
  unfold srcK at h ⊢
  split at h
  · exact ⟨h.1, hk _ _ h.2⟩
  · exact hk _ _ h
  · split at h
    · exact ⟨h.1, hk _ _ h.2⟩
    · exact h.elim
  · exact ⟨h.1, hk _ _ h.2⟩
  · exact h.elim

theorem anys_length (n : Nat) : (anys n).length = n := by simp [anys]

/-- In the same box: what lies behind the new length is forgotten. -/
theorem box_tail {w : World} {I : Cells} {b : Nat} {A fs D : List V} (h : BoxAt w I b (.c (A ++ fs ++ D))) (r : Nat) (hr : D.length = r) : BoxAt w I b (.c (A ++ fs ++ anys r)) := by
  obtain ⟨arr, e, h1, h2, h3, h4⟩ := h
  refine ⟨arr, e, h1, h2, ?_, h4⟩
  have hl := reps_length h3
  have e1 := reps_take (A ++ fs).length h3
  have e2 := reps_drop (A ++ fs).length h3
  rw [List.take_left'  rfl] at e1
  rw [List.drop_left' rfl] at e2
  have := reps_append e1 (reps_anys (w := w) (I := I) (n := r) (xs := arr.toList.drop (A ++ fs).length) (by rw [reps_length e2, hr]))
  rwa [List.take_append_drop] at this

theorem step_appA {C S} {o : Oper} {c : Call} {s x : Operand} {t tx : TypeId} {K : St → Prop} (ho : o.op = .call c) (hc : c.callee = .builtin .append) (ha : c.args.toList = [s, x]) (ht : c.argTypes.toList = [t, tx]) (hd : dstOk C.N o = true)
    (h : appAK C.P S o.dst t tx (VL.ev S.σ s) (VL.ev S.σ x) K) : Step C S o K := by
  have key : Step C S o fun S' => K S' ∨ (∃ b cs n m c k fs, getB S.boxes b = some cs ∧ cs.length = c * k ∧ n + m ≤ c ∧ S' = (S.setBoxes (setB S.boxes b (cs.take (n * k) ++ fs ++ cs.drop (n * k + m * k)))).put o.dst (.lit (.slice (some ⟨b, 0, none⟩) (n + m) c)) ∧
      (b ∉ blks (remB S.boxes b) S.rows → K ((S.setBoxes ((b, .c (cs.take (n * k) ++ fs ++ anys ((c - (n + m)) * k))) :: remB S.boxes b)).put o.dst (.lit (.slice (some ⟨b, 0, none⟩) (n + m) c))))) ∨
      ∃ b ds b' v, b' ∉ blks S.boxes S.rows ∧ S' = (S.addBox b' ds).put o.dst v ∧ K ((S.setBoxes ((b', .c ds) :: remB S.boxes b)).put o.dst v) := by
    refine step_appM ho hc ha ht hd ?_
    unfold appAK at h
    unfold appMK
    split at h
    · rename_i e hu
      split at h
      · rename_i k by_ z hk hby hz
        simp only [hu, hk, hby, hz]
        obtain ⟨g1, g2, g3, h⟩ := h
        refine ⟨g1, g2, g3, srcK_imp h fun m fs h => ?_⟩
        split at h <;> rename_i hs <;> simp only [appMD, hs]
        · obtain ⟨hm, hb, hK⟩ := h
          unfold onIf
          rw [if_neg (by omega)]
          exact ⟨hb, fun b c h1 h2 => .inl (hK b c h1 h2)⟩
        · rename_i b n c
          split at h
          · rename_i cs hcs
            obtain ⟨hl, hnc, hb, hK⟩ := h
            simp only [hcs]
            refine ⟨by omega, hnc, ?_⟩
            unfold onIf
            split
            · rename_i hroom
              refine .inr (.inl ⟨b, cs, n, m, c, k, fs, hcs, hl, hroom, by simp only [Nat.zero_add], fun hb' => hK b c hb' hroom⟩)
            · rename_i hroom
              refine ⟨hb, fun b' c' h1 h2 => .inr (.inr ⟨b, _, b', _, h1, by simp only [List.drop_zero]; rfl, ?_⟩)⟩
              refine hK b' c' (fun hm => h1 ?_) h2
              simp only [blks, List.mem_append, List.mem_map] at hm ⊢
              rcases hm with ⟨p, hp, rfl⟩ | hm
              · exact .inl ⟨p, (remB_mem hp).1, rfl⟩
              · exact .inr hm
          · exact h.elim
        · exact h.elim
      · exact h.elim
    · exact h.elim
  refine Step.weaken key fun S' a w I hΓ hS' => ?_
  rcases hS' with hS' | ⟨b, cs, n, m, c, k, fs, hb, hl, hroom, rfl, hK⟩ | ⟨b, ds, b', v, hb, rfl, hK⟩
  · exact ⟨S', hΓ, hS'⟩
  · have hkeys : (setB S.boxes b (cs.take (n * k) ++ fs ++ cs.drop (n * k + m * k))).map (·.1) = S.boxes.map (·.1) := setB_keys _ _ _
    have hnd := List.nodup_append.1 hΓ.2.heap.nodup
    have hn : ((setB S.boxes b (cs.take (n * k) ++ fs ++ cs.drop (n * k + m * k))).map (·.1)).Nodup := hnd.1
    have hn' : (S.boxes.map (·.1)).Nodup := by rw [← hkeys]; exact hn
    have hbk : b ∈ (setB S.boxes b (cs.take (n * k) ++ fs ++ cs.drop (n * k + m * k))).map (·.1) := by rw [hkeys]; exact List.mem_map.2 ⟨_, getB_mem hb, rfl⟩
    refine ⟨_, ?_, hK fun hm => ?_⟩
    rotate_left
    · rcases List.mem_append.1 hm with hm | hm
      · obtain ⟨p, hp, e⟩ := List.mem_map.1 hm
        exact (remB_mem hp).2 e
      · exact hnd.2.2 b hbk b hm rfl
    have := hΓ.boxes ((b, .c (cs.take (n * k) ++ fs ++ anys ((c - (n + m)) * k))) :: remB S.boxes b) (fun p hp => ?_) ?_ (fun p hp => ?_)
    · exact this
    · rcases List.mem_cons.1 hp with rfl | hp
      · refine box_tail (D := cs.drop (n * k + m * k)) (hΓ.2.heap.bx (b, .c _) (setB_has hb)) _ ?_
        rw [List.length_drop, hl, Nat.sub_mul, Nat.add_mul]
      · exact hΓ.2.heap.bx p (setB_keep (remB_mem hp).1 (remB_mem hp).2)
    · simp only [List.map_cons, List.nodup_cons]
      refine ⟨fun hm => ?_, remB_keys hn'⟩
      obtain ⟨p, hp, e⟩ := List.mem_map.1 hm
      exact (remB_mem hp).2 e
    · have hk : (((S.setBoxes (setB S.boxes b (cs.take (n * k) ++ fs ++ cs.drop (n * k + m * k)))).put o.dst (.lit (.slice (some ⟨b, 0, none⟩) (n + m) c))).boxes).map (·.1) = S.boxes.map (·.1) := setB_keys _ _ _
      rw [hk]
      rcases List.mem_cons.1 hp with rfl | hp
      · exact List.mem_map.2 ⟨_, getB_mem hb, rfl⟩
      · exact List.mem_map.2 ⟨p, (remB_mem hp).1, rfl⟩
  · refine ⟨_, ?_, hK⟩
    have hn := (List.nodup_append.1 hΓ.2.heap.nodup).1
    have hn2 : (b' :: S.boxes.map (·.1)).Nodup := hn
    have := hΓ.boxes ((b', .c ds) :: remB S.boxes b) (fun p hp => ?_) ?_ (fun p hp => ?_)
    · exact this
    · rcases List.mem_cons.1 hp with rfl | hp
      · exact hΓ.2.heap.bx _ List.mem_cons_self
      · exact hΓ.2.heap.bx p (List.mem_cons_of_mem _ (remB_mem hp).1)
    · simp only [List.map_cons, List.nodup_cons] at hn2 ⊢
      refine ⟨fun hm => hn2.1 ?_, remB_keys hn2.2⟩
      obtain ⟨p, hp, e⟩ := List.mem_map.1 hm
      exact List.mem_map.2 ⟨p, (remB_mem hp).1, e⟩
    · rcases List.mem_cons.1 hp with rfl | hp
      · exact List.mem_map.2 ⟨_, List.mem_cons_self, rfl⟩
      · exact List.mem_map.2 ⟨p, List.mem_cons_of_mem _ (remB_mem hp).1, rfl⟩

end Go.VL

/- The V logic, part D: copy, make, an append of zeros. -/
namespace Go.VL
open Go.RowKit

def copyK (P : Program) (S : St) (d : Option Nat) (t tx : TypeId) (s x : V) (K : St → Prop) : Prop :=
  match P.underlying t with
  | some (.slice e) => match tsz P e with
    | some k => srcK P S tx k x fun m fs =>
      match s with
      | .lit (.slice none 0 0) => K (S.put d (.lit (.int .i64 0)))
      | .lit (.slice (some ⟨b, o, none⟩) n _) => match getB S.boxes b with
        | some cs => o + n * k ≤ cs.length ∧ K ((S.setBoxes (setB S.boxes b (cs.take o ++ fs.take (min m n * k) ++ cs.drop (o + min m n * k)))).put d (.lit (.int .i64 (min m n : Nat))))
        | none => False
      | _ => False
    | none => False
  | _ => False

theorem step_copy {C S} {o : Oper} {c : Call} {s x : Operand} {t tx : TypeId} {K : St → Prop} (ho : o.op = .call c) (hc : c.callee = .builtin .copy) (ha : c.args.toList = [s, x]) (ht : c.argTypes.toList = [t, tx]) (hd : dstOk C.N o = true)
    (h : copyK C.P S o.dst t tx (VL.ev S.σ s) (VL.ev S.σ x) K) : Step C S o K := by
  have ha' : c.args = #[s, x] := by rw [← Array.toArray_toList (xs := c.args), ha]
  have ht' : c.argTypes = #[t, tx] := by rw [← Array.toArray_toList (xs := c.argTypes), ht]
  unfold copyK at h
  split at h
  · rename_i e hu
    split at h
    · rename_i k hk
      obtain ⟨m, fs, h, src⟩ := srcK_spec h
      refine Step.of_value fun a w I hΓ => ?_
      obtain ⟨news, n1, n2, hsrc, hpre⟩ := src.get w I _ hΓ.2 (hΓ.ev x)
      have runs : ∀ y w', (Builtin.copy_ #[t, tx] o.type #[a.eval s, a.eval x]).run C.P w = .ok y w' → (execOp a.eval o).run C.P w = .ok (.value y) w' := fun y w' hr => by
        simp only [execOp, ho, resolve, hc, ha', ht']
        simp [invoke, builtin, hr]
      split at h
      · rename_i hs
        have rs := hΓ.ev s
        rw [hs] at rs
        simp only [V.rep] at rs
        refine ⟨goInt (0 : Nat), w, _, I, runs _ w ?_, ⟨hΓ.1.put o.dst (dstOk_spec hd) (v := .lit (.int .i64 0)) (by simp [V.rep, goInt]), hΓ.2.put _ _⟩, h⟩
        rw [rs]
        have := hpre 0 (Nat.zero_le _)
        simp only [Nat.zero_mul, List.take_zero] at this
        simp [Builtin.copy_, run_underlying hu, hsrc.len, run_tsz hk, this]
      · rename_i b off n cc hs
        split at h
        · rename_i cs hb
          obtain ⟨hle, h⟩ := h
          have rs := hΓ.ev s
          rw [hs] at rs
          simp only [V.rep] at rs
          have hm := getB_mem hb
          obtain ⟨arr, te, q1, q2, q3, q4⟩ := hΓ.2.heap.bx _ hm
          have hla : arr.size = cs.length := by have := reps_length q3; simpa using this
          have hr1 : min m n ≤ m := Nat.min_le_left _ _
          have hr2 : min m n ≤ n := Nat.min_le_right _ _
          have hrk : min m n * k ≤ n * k := Nat.mul_le_mul_right _ hr2
          have hrm : min m n * k ≤ m * k := Nat.mul_le_mul_right _ hr1
          have hnl := hsrc.newsLen
          have hlen : (news.take (min m n * k)).length = min m n * k := by simp; omega
          have hst := run_storeCells_at (P := C.P) b off te (news.take (min m n * k)) 0 arr w q1 (by rw [hlen]; omega) (fun v hv => one_cell' (n2 v (List.mem_of_mem_take hv)))
          simp only [Nat.add_zero, hlen] at hst
          obtain ⟨hW, hS⟩ := hΓ.2.write (ds := cs.take off ++ fs.take (min m n * k) ++ cs.drop (off + min m n * k)) (arr' := (arr.toList.take off ++ news.take (min m n * k) ++ arr.toList.drop (off + min m n * k)).toArray) (List.mem_map.2 ⟨_, hm, rfl⟩) q1
            (fun u hu' => by
              simp only [List.mem_append] at hu'
              rcases hu' with (hu' | hu') | hu'
              · exact q2 u (List.mem_of_mem_take hu')
              · exact n2 u (List.mem_of_mem_take hu')
              · exact q2 u (List.mem_of_mem_drop hu'))
            (reps_append (reps_append (reps_take _ q3) (reps_take _ n1)) (reps_drop _ q3))
          refine ⟨goInt ((min m n : Nat) : Int), _, _, I, runs _ _ ?_, ⟨(hΓ.1.mono hS).put o.dst (dstOk_spec hd) (by simp only [V.rep, goInt]), hW.put _ _⟩, h⟩
          rw [rs]
          have hpr := hpre _ hr1
          have hmin : Nat.min m n = min m n := rfl
          simp only [Builtin.copy_, List.getElem?_toArray, List.getElem?_cons_zero, List.getElem?_cons_succ, Sem.run_bind, run_underlying hu, Result.andThen_ok, hsrc.len, run_tsz hk, hmin, hpr, hst, Sem.run_pure]
        · exact h.elim
      · exact h.elim
    · exact h.elim
  · exact h.elim

/-- A new slice of zero values. -/
def makeSliceK (P : Program) (S : St) (d : Option Nat) (t : TypeId) (l c : V) (K : St → Prop) : Prop :=
  match P.underlying t, l, c with
  | some (.slice e), .lit (.int _ l), .lit (.int _ c) => match tsz P e, tby P e, tzr P e with
    | some k, some by_, some z => z.length = k ∧ 0 < k ∧ okC (z.map .lit) = true ∧ 0 ≤ l ∧ l ≤ c ∧ c.toNat * by_ ≤ 140737488355328 ∧ c ≤ 140737488355328 ∧
        ∀ b, b ∉ blks S.boxes S.rows → K ((S.addBox b ((List.replicate c.toNat (z.map V.lit)).flatten)).put d (.lit (.slice (some ⟨b, 0, none⟩) l.toNat c.toNat)))
    | _, _, _ => False
  | _, _, _ => False

theorem made_cells (z : Array Value) : ∀ n : Nat, (madeCells z (n * z.size)).toList = (List.replicate n z.toList).flatten := by
  intro n
  apply List.ext_getElem?
  intro i
  have hl : ((List.replicate n z.toList).flatten).length = n * z.size := by simp
  by_cases hi : i < n * z.size
  · have h1 : (madeCells z (n * z.size)).toList[i]? = some (z[i % z.size]!) := by
      simp [madeCells, hi]
    rw [h1]
    have : ∀ (n i : Nat), i < n * z.size → ((List.replicate n z.toList).flatten)[i]? = some (z[i % z.size]!) := by
      intro n
      induction n with
      | zero => intro i hi; omega
      | succ n ih =>
        intro i hi
        rw [List.replicate_succ, List.flatten_cons, List.getElem?_append]
        split
        · rename_i h
          have h' : i < z.size := by simpa using h
          rw [Nat.mod_eq_of_lt h', getElem!_pos z i h']
          simp [h']
        · rename_i h
          have h' : z.size ≤ i := by simpa using h
          have := ih (i - z.size) (by rw [Nat.add_mul] at hi; omega)
          simp only [Array.length_toList]
          rw [this, ← Nat.mod_eq_sub_mod h']
    exact (this n i hi).symm
  · rw [List.getElem?_eq_none (by simp [madeCells]; omega), List.getElem?_eq_none (by omega)]

theorem reps_zeros {w I} (z : List Value) : ∀ n : Nat, V.reps w I ((List.replicate n (z.map V.lit)).flatten) ((List.replicate n z).flatten)
  | 0 => by simp [V.reps]
  | n + 1 => by
    rw [List.replicate_succ, List.replicate_succ, List.flatten_cons, List.flatten_cons]
    exact reps_append (reps_lits z) (reps_zeros z n)

theorem step_makeSlice {C S} {o : Oper} {t : TypeId} {l c : Operand} {K : St → Prop} (ho : o.op = .makeSlice t l c) (hd : dstOk C.N o = true)
    (h : makeSliceK C.P S o.dst t (VL.ev S.σ l) (VL.ev S.σ c) K) : Step C S o K := by
  unfold makeSliceK at h
  split at h
  · rename_i e kl lv kc cv hu hl hc
    split at h
    · rename_i k by_ z hk hby hz
      obtain ⟨hzl, hk0, hoz, h0, hlc, hb, hcm, hK⟩ := h
      obtain ⟨i, hi, rfl, rfl, zv, hiz, rfl⟩ := infos hk hby hz
      have hzs : zv.cells.size = i.size := by simpa using hzl
      refine Step.of_value fun a w I hΓ => ?_
      have rl := hΓ.ev l
      have rc := hΓ.ev c
      rw [hl] at rl
      rw [hc] at rc
      simp only [V.rep] at rl rc
      have hcb : (i.bytes : Int) * cv ≤ 281474976710656 := by
        have : (i.bytes : Int) * cv = ((cv.toNat * i.bytes : Nat) : Int) := by
          rw [Int.natCast_mul, Int.toNat_of_nonneg (by omega), Int.mul_comm]
        rw [this]; omega
      have hrun := run_make (P := C.P) w t e i zv hu hi hiz kl kc lv cv h0 hlc hcb (by omega)
      have hcells : (madeCells zv.cells (cv.toNat * i.size)).toList = (List.replicate cv.toNat zv.cells.toList).flatten := by
        have := made_cells zv.cells cv.toNat
        rwa [hzs] at this
      refine ⟨_, _, _, I, ?_, hΓ.boxedS o.dst (dstOk_spec hd) (madeCells zv.cells (cv.toNat * i.size)) e ((List.replicate cv.toNat (zv.cells.toList.map V.lit)).flatten) lv.toNat cv.toNat ?_ ?_, hK _ hΓ.2.fresh⟩
      · simp only [execOp, ho, rl, rc]
        rw [Sem.run_bind, hrun]
        rfl
      · intro u hu'
        rw [hcells] at hu'
        obtain ⟨l', hl', hu''⟩ := List.mem_flatten.1 hu'
        rw [List.eq_of_mem_replicate hl'] at hu''
        exact one_zero hoz u hu''
      · rw [hcells]; exact reps_zeros _ _
    · exact h.elim
  · exact h.elim

/-- An append of zero values that has to make a new array. -/
def appZK (P : Program) (S : St) (d : Option Nat) (t tx : TypeId) (s x : V) (K : St → Prop) : Prop :=
  match P.underlying t, P.underlying tx, s, x with
  | some (.slice e), some (.int _), .lit (.slice (some ⟨b, o, none⟩) n c), .lit (.int _ j) => match tsz P e, tby P e, tzr P e, getB S.boxes b with
    | some k, some by_, some z, some cs => 0 < by_ ∧ 0 < k ∧ z.length = k ∧ okC (z.map .lit) = true ∧ 0 < j ∧ o + n * k ≤ cs.length ∧ c < n + j.toNat ∧ (n + j.toNat) * by_ ≤ 140737488355328 ∧
        ∀ b' c', b' ∉ blks S.boxes S.rows → n + j.toNat ≤ c' → K ((S.addBox b' ((cs.drop o).take (n * k) ++ anys ((c' - n) * k))).put d (.lit (.slice (some ⟨b', 0, none⟩) (n + j.toNat) c')))
    | _, _, _, _ => False
  | _, _, _, _ => False

theorem run_append_zeros {P : Program} (w : World) (t tx ty e : TypeId) (kx kv : IntKind) (i : TypeInfo) (z : Value) (ht : P.underlying t = some (.slice e)) (hx : P.underlying tx = some (.int kx)) (hi : P.info? e = some i) (hz : i.zero = some z) (base : Option Addr) (sLen sCap : Nat) (olds : List Value)
    (hold : (Builtin.firstCells i.size sLen (.slice base sLen sCap)).run P w.drew = .ok olds.toArray w.drew) (j : Int) (h0 : 0 ≤ j) (hj : j * i.bytes ≤ 281474976710656) (hj63 : j ≤ 9223372036854775807) (hk0 : 0 < i.size) (hj0 : 0 < j.toNat)
    (hg : sCap < sLen + j.toNat) (h63 : ((sLen + j.toNat : Nat) : Int) ≤ 9223372036854775807) (hfit : Builtin.nextslicecap (sLen + j.toNat) sCap * i.bytes ≤ 281474976710656) :
    (Builtin.append_ #[t, tx] ty #[.slice base sLen sCap, .int kv j]).run P w =
      .ok (.slice (some ⟨w.heap.size, 0, none⟩) (sLen + j.toNat) (grownCap w (sLen + j.toNat) sCap e))
        (w.drew.alloc (.cells ((olds ++ (Builtin.zeroCells z.cells j.toNat).toList).toArray ++ Builtin.zeroCells z.cells (grownCap w (sLen + j.toNat) sCap e - (sLen + j.toNat))) e)) := by
  have hn : ¬ (sLen + j.toNat ≤ sCap) := by omega
  have wl : IntKind.i64.wrap j = j := IntWalk.i64_in j ⟨by omega, hj63⟩
  have n1 : ¬ j < 0 := by omega
  have n2 : ¬ (281474976710656 < j * (i.bytes : Int)) := by omega
  have h63' : ¬ (9223372036854775807 < ((sLen : Int) + max j 0)) := by omega
  have h48' : ¬ (281474976710656 < Builtin.nextslicecap (sLen + j.toNat) sCap * i.bytes) := by omega
  have hnz : ¬ (j.toNat * i.size = 0) := by
    have := Nat.mul_pos hj0 hk0
    omega
  simp [Builtin.append_, run_underlying ht, run_underlying hx, sizeOf, typeInfo, zeroValue, hi, hz, asInt, asIntOf, wl, n1, n2, hn, h63', h48', hnz, Question.forced, hold, newRow, grownCap]
  congr 2
  apply Array.ext'
  simp [List.append_assoc]

theorem step_appZ {C S} {o : Oper} {c : Call} {s x : Operand} {t tx : TypeId} {K : St → Prop} (ho : o.op = .call c) (hc : c.callee = .builtin .append) (ha : c.args.toList = [s, x]) (ht : c.argTypes.toList = [t, tx]) (hd : dstOk C.N o = true)
    (h : appZK C.P S o.dst t tx (VL.ev S.σ s) (VL.ev S.σ x) K) : Step C S o K := by
  have ha' : c.args = #[s, x] := by rw [← Array.toArray_toList (xs := c.args), ha]
  have ht' : c.argTypes = #[t, tx] := by rw [← Array.toArray_toList (xs := c.argTypes), ht]
  unfold appZK at h
  split at h
  · rename_i e kx b off n cc kv j hu hx hs hj
    split at h
    · rename_i k by_ z cs hk hby hz hb
      obtain ⟨hb0, hk0, hzl, hoz, hjp, hle, hg, hbd, hK⟩ := h
      obtain ⟨i, hi, rfl, rfl, zv, hiz, rfl⟩ := infos hk hby hz
      have hzs : zv.cells.size = i.size := by simpa using hzl
      have hone := one_zero hoz
      refine Step.of_value fun a w I hΓ => ?_
      have rs := hΓ.ev s
      have rx := hΓ.ev x
      rw [hs] at rs
      rw [hj] at rx
      simp only [V.rep] at rs rx
      obtain ⟨arr, te, q1, q2, q3, q4⟩ := hΓ.2.heap.bx _ (getB_mem hb)
      have hla : arr.size = cs.length := by have := reps_length q3; simpa using this
      have hdr := hΓ.drew
      have hold : (Builtin.firstCells i.size n (.slice (some ⟨b, off, none⟩) n cc)).run C.P w.drew = .ok ((arr.toList.drop off).take (n * i.size)).toArray w.drew := by
        refine run_firstCells_some w.drew i.size n ⟨b, off, none⟩ n cc _ (by simp; omega) fun j u hj => ?_
        rw [Addr.add_lit]
        rw [List.getElem?_take] at hj
        split at hj
        · rw [List.getElem?_drop] at hj
          have : w.drew.heap[b]? = some (.cells arr te (0, 0)) := q1
          simp only [World.cell?, this, Option.isSome_none, Bool.false_eq_true, if_false]
          simpa using hj
        · cases hj
      have hmx : n + j.toNat ≤ 140737488355328 := Nat.le_trans (Nat.le_mul_of_pos_right _ hb0) hbd
      have hj0 : 0 < j.toNat := by omega
      have h0 : 0 ≤ j := by omega
      · have hjb : j * i.bytes ≤ 281474976710656 := by
          have h1 : j.toNat * i.bytes ≤ (n + j.toNat) * i.bytes := Nat.mul_le_mul_right _ (by omega)
          have h2 : j * (i.bytes : Int) = ((j.toNat * i.bytes : Nat) : Int) := by rw [Int.natCast_mul, Int.toNat_of_nonneg h0]
          rw [h2]; omega
        have hrun := run_append_zeros (P := C.P) w t tx o.type e kx kv i zv hu hx hi hiz (some ⟨b, off, none⟩) n cc _ hold j h0 hjb (by omega) hk0 hj0 hg (by omega) (growslice_fits (by omega) hbd)
        refine ⟨.slice (some ⟨w.heap.size, 0, none⟩) (n + j.toNat) (grownCap w (n + j.toNat) cc e), w.drew.alloc (.cells (((arr.toList.drop off).take (n * i.size) ++ (Builtin.zeroCells zv.cells j.toNat).toList).toArray ++ Builtin.zeroCells zv.cells (grownCap w (n + j.toNat) cc e - (n + j.toNat))) e),
          _, I, ?_, ?_, hK _ (grownCap w (n + j.toNat) cc e) (by simpa using hdr.2.fresh) (grownCap_ge w (n + j.toNat) cc e)⟩
        · simp only [execOp, ho, resolve, hc, ha', ht']
          simp [invoke, builtin, rs, rx, hrun]
        · have := hdr.boxedS o.dst (dstOk_spec hd) (((arr.toList.drop off).take (n * i.size) ++ (Builtin.zeroCells zv.cells j.toNat).toList).toArray ++ Builtin.zeroCells zv.cells (grownCap w (n + j.toNat) cc e - (n + j.toNat))) e
            ((cs.drop off).take (n * i.size) ++ anys ((grownCap w (n + j.toNat) cc e - n) * i.size)) (n + j.toNat) (grownCap w (n + j.toNat) cc e)
            (fun u hu' => by
              simp only [Array.toList_append, List.mem_append] at hu'
              rcases hu' with (hu' | hu') | hu'
              · exact q2 u (List.mem_of_mem_drop (List.mem_of_mem_take hu'))
              · exact hone u (mem_zeroCells hu')
              · exact hone u (mem_zeroCells hu'))
            (by
              have hst := (Keeps.drew (fun _ => True) w I).stays
              simp only [Array.toList_append, List.append_assoc]
              refine reps_append (V.reps_mono hst _ _ (reps_take _ (reps_drop _ q3))) (reps_anys ?_)
              have h1 := size_zc zv.cells j.toNat
              have h2 := size_zc zv.cells (grownCap w (n + j.toNat) cc e - (n + j.toNat))
              have h3 := grownCap_ge w (n + j.toNat) cc e
              rw [hzs] at h1 h2
              simp only [List.length_append, Array.length_toList, h1, h2]
              rw [← Nat.add_mul]
              congr 1
              omega)
          simpa using this
    · exact h.elim
  · exact h.elim

end Go.VL

/- The V logic, part I: equality of structs and arrays of scalars, at any depth. -/
namespace Go.VL
open Go.RowKit

/-- Equality of scalars, and of lists of them. -/
def veq : Value → Value → Bool
  | .bool a, .bool b => a == b
  | .int k a, .int k' b => decide (k = k') && decide (a = b)
  | .string a, .string b => decide (a = b)
  | _, _ => false
def veqL : List Value → List Value → Bool
  | [], [] => true
  | x :: xs, y :: ys => veq x y && veqL xs ys
  | _, _ => false
def eqShF (P : Program) (f : TypeId → Option (List Sh)) : Nat → List Field → Option (List Sh)
  | _, [] => some []
  | o, fd :: r => if fd.name = "_" ∨ fd.offset ≠ o then none else match f fd.type, tsz P fd.type with
    | some l, some c => if l.length = c then (eqShF P f (o + c) r).map (l ++ ·) else none
    | _, _ => none
/-- The kinds of the cells of a type whose values may be compared cell by cell. -/
def eqSh (P : Program) : Nat → TypeId → Option (List Sh)
  | 0, _ => none
  | d + 1, t => match P.underlying t with
    | some .bool => some [.b]
    | some (.int k) => some [.i k]
    | some .string => some [.s]
    | some (.array n e) => match eqSh P d e, tsz P e with
      | some l, some c => if l.length = c then some ((List.replicate n l).flatten) else none
      | _, _ => none
    | some (.struct fs) => if P.stoodInHeld t = true then none else eqShF P (eqSh P d) 0 fs.toList
    | _ => none

/-- A value of a type out of its cells. -/
def mkV (P : Program) (t : TypeId) (xs : List Value) : Value := if tag P t = some true then .agg xs.toArray else xs.headD undef

theorem fitL_length : ∀ {l : List Sh} {xs : List Value}, fitL l xs = true → xs.length = l.length
  | [], [], _ => rfl
  | _ :: _, _ :: _, h => by simp only [fitL, Bool.and_eq_true] at h; simp [fitL_length h.2]
  | [], _ :: _, h => by simp [fitL] at h
  | _ :: _, [], h => by simp [fitL] at h
theorem fitL_append : ∀ {l l' : List Sh} {xs : List Value}, fitL (l ++ l') xs = true → fitL l (xs.take l.length) = true ∧ fitL l' (xs.drop l.length) = true
  | [], l', xs, h => by simpa [fitL] using h
  | a :: l, l', x :: xs, h => by
    simp only [List.cons_append, fitL, Bool.and_eq_true] at h
    have := fitL_append h.2
    simp [fitL, h.1, this]
  | a :: l, l', [], h => by simp [fitL] at h

section
variable {P : Program} {w : World}

theorem run_part_mk {e : TypeId} {c : Nat} {zs : Array Value} {off : Nat} {d : Nat} {l : List Sh} (hl : eqSh P d e = some l) (hc : tsz P e = some c) (hlc : l.length = c) (hf : fitL l ((zs.toList.drop off).take c) = true) :
    (part e zs off).run P w = .ok (mkV P e ((zs.toList.drop off).take c)) w := by
  have htag : ∃ b, tag P e = some b ∧ (b = false → c = 1) := by
    cases d with
    | zero => simp [eqSh] at hl
    | succ d =>
      unfold eqSh at hl
      unfold tag
      split at hl <;> rename_i hu <;> try simp only [hu]
      · exact ⟨false, rfl, fun _ => by cases hl; exact hlc.symm⟩
      · exact ⟨false, rfl, fun _ => by cases hl; exact hlc.symm⟩
      · exact ⟨false, rfl, fun _ => by cases hl; exact hlc.symm⟩
      · exact ⟨true, rfl, fun h => by cases h⟩
      · exact ⟨true, rfl, fun h => by cases h⟩
      · cases hl
  obtain ⟨b, hb, h1⟩ := htag
  have hlen := fitL_length hf
  cases b with
  | true =>
    simp only [part, Sem.run_bind, run_tag hb, Result.andThen_ok, if_true, run_tsz hc, Sem.run_pure, mkV, hb]
    congr 2
    apply Array.ext'
    simp [List.extract, Nat.add_sub_cancel_left]
  | false =>
    obtain rfl := h1 rfl
    simp only [hlc] at hlen
    have : ∃ x, zs[off]? = some x ∧ (zs.toList.drop off).take 1 = [x] := by
      cases hd : zs.toList.drop off with
      | nil => rw [hd] at hlen; simp at hlen
      | cons x r =>
        refine ⟨x, ?_, by simp⟩
        have : zs.toList[off]? = some x := by
          have := congrArg (fun l => l[0]?) hd
          simpa [List.getElem?_drop] using this
        simpa using this
    obtain ⟨x, hx, hx'⟩ := this
    simp only [part, Sem.run_bind, run_tag hb, Result.andThen_ok, Bool.false_eq_true, if_false, hx, Sem.run_pure, mkV, hb, hx']
    simp

omit P w in
theorem veqL_append : ∀ {A A' B B' : List Value}, A.length = B.length → veqL (A ++ A') (B ++ B') = (veqL A B && veqL A' B')
  | [], _, [], _, _ => by simp [veqL]
  | a :: A, A', b :: B, B', h => by
    simp only [List.length_cons, Nat.succ.injEq] at h
    simp only [List.cons_append, veqL, veqL_append h, Bool.and_assoc]
  | [], _, _ :: _, _, h => by simp at h
  | _ :: _, _, [], _, h => by simp at h

/-- The law of one depth. -/
def EqLaw (P : Program) (d : Nat) : Prop := ∀ t l, eqSh P d t = some l → ∀ D, d ≤ D → ∀ xs ys w, fitL l xs = true → fitL l ys = true → (Op.equalIn D t (mkV P t xs) (mkV P t ys)).run P w = .ok (veqL xs ys) w

theorem items_law {d : Nat} (ih : EqLaw P d) {e : TypeId} {l : List Sh} {c : Nat} (hl : eqSh P d e = some l) (hc : tsz P e = some c) (hlc : l.length = c) {D : Nat} (hD : d ≤ D) (X Y : Array Value) : ∀ (m j : Nat) (w : World),
    fitL ((List.replicate m l).flatten) (X.toList.drop (j * c)) = true → fitL ((List.replicate m l).flatten) (Y.toList.drop (j * c)) = true →
    (Op.eqItems D e c X Y (List.range' j m)).run P w = .ok (veqL (X.toList.drop (j * c)) (Y.toList.drop (j * c))) w
  | 0, j, w, hx, hy => by
    have h1 := fitL_length hx
    have h2 := fitL_length hy
    simp at h1 h2
    have e1 : X.toList.drop (j * c) = [] := List.drop_eq_nil_of_le (by simp; omega)
    have e2 : Y.toList.drop (j * c) = [] := List.drop_eq_nil_of_le (by simp; omega)
    simp [Op.eqItems, e1, e2, veqL]
  | m + 1, j, w, hx, hy => by
    simp only [List.replicate_succ, List.flatten_cons] at hx hy
    have ax := fitL_append hx
    have ay := fitL_append hy
    rw [hlc] at ax ay
    simp only [List.drop_drop] at ax ay
    rw [show j * c + c = (j + 1) * c by rw [Nat.add_mul]; omega] at ax ay
    have r := items_law ih hl hc hlc hD X Y m (j + 1) w ax.2 ay.2
    simp only [List.range'_succ, Op.eqItems, Sem.run_bind, run_part_mk hl hc hlc ax.1, run_part_mk hl hc hlc ay.1, Result.andThen_ok, ih e l hl D hD _ _ w ax.1 ay.1]
    have ex : X.toList.drop (j * c) = (X.toList.drop (j * c)).take c ++ X.toList.drop ((j + 1) * c) := by
      rw [show (j + 1) * c = j * c + c by rw [Nat.add_mul]; omega, ← List.drop_drop, List.take_append_drop]
    have ey : Y.toList.drop (j * c) = (Y.toList.drop (j * c)).take c ++ Y.toList.drop ((j + 1) * c) := by
      rw [show (j + 1) * c = j * c + c by rw [Nat.add_mul]; omega, ← List.drop_drop, List.take_append_drop]
    have hdec : veqL (X.toList.drop (j * c)) (Y.toList.drop (j * c)) = (veqL ((X.toList.drop (j * c)).take c) ((Y.toList.drop (j * c)).take c) && veqL (X.toList.drop ((j + 1) * c)) (Y.toList.drop ((j + 1) * c))) := by
      rw [← veqL_append (by rw [fitL_length ax.1, fitL_length ay.1]), ← ex, ← ey]
    rw [hdec]
    cases q : veqL ((X.toList.drop (j * c)).take c) ((Y.toList.drop (j * c)).take c)
    · simp only [Bool.not_false, if_true, Bool.false_and, Sem.run_pure]
    · simp only [Bool.not_true, Bool.false_eq_true, if_false, Bool.true_and]; exact r

theorem fields_law {d : Nat} (ih : EqLaw P d) {D : Nat} (hD : d ≤ D) (X Y : Array Value) : ∀ (fs : List Field) (o : Nat) (l : List Sh) (w : World), eqShF P (eqSh P d) o fs = some l →
    fitL l (X.toList.drop o) = true → fitL l (Y.toList.drop o) = true → (Op.eqFields D X Y fs).run P w = .ok (veqL (X.toList.drop o) (Y.toList.drop o)) w
  | [], o, l, w, h, hx, hy => by
    simp only [eqShF, Option.some.injEq] at h
    subst h
    have h1 := fitL_length hx
    have h2 := fitL_length hy
    simp at h1 h2
    have e1 : X.toList.drop o = [] := List.drop_eq_nil_of_le (by simp; omega)
    have e2 : Y.toList.drop o = [] := List.drop_eq_nil_of_le (by simp; omega)
    simp [Op.eqFields, e1, e2, veqL]
  | f :: fs, o, l, w, h, hx, hy => by
    simp only [eqShF] at h
    split at h
    · cases h
    · rename_i hno
      have hn : f.name ≠ "_" := fun e => hno (.inl e)
      have ho : f.offset = o := Decidable.byContradiction fun e => hno (.inr e)
      split at h
      · rename_i l1 c h1 hc
        split at h
        · rename_i hlc
          simp only [Option.map_eq_some_iff] at h
          obtain ⟨l2, h2, rfl⟩ := h
          have ax := fitL_append hx
          have ay := fitL_append hy
          rw [hlc] at ax ay
          simp only [List.drop_drop] at ax ay
          have r := fields_law ih hD X Y fs (o + c) l2 w h2 ax.2 ay.2
          simp only [Op.eqFields, if_pos hn, ho, Sem.run_bind, run_part_mk h1 hc hlc ax.1, run_part_mk h1 hc hlc ay.1, Result.andThen_ok, ih f.type l1 h1 D hD _ _ w ax.1 ay.1]
          have ex : X.toList.drop o = (X.toList.drop o).take c ++ X.toList.drop (o + c) := by rw [← List.drop_drop, List.take_append_drop]
          have ey : Y.toList.drop o = (Y.toList.drop o).take c ++ Y.toList.drop (o + c) := by rw [← List.drop_drop, List.take_append_drop]
          have hdec : veqL (X.toList.drop o) (Y.toList.drop o) = (veqL ((X.toList.drop o).take c) ((Y.toList.drop o).take c) && veqL (X.toList.drop (o + c)) (Y.toList.drop (o + c))) := by
            rw [← veqL_append (by rw [fitL_length ax.1, fitL_length ay.1]), ← ex, ← ey]
          rw [hdec]
          cases q : veqL ((X.toList.drop o).take c) ((Y.toList.drop o).take c)
          · simp only [Bool.not_false, if_true, Bool.false_and, Sem.run_pure]
          · simp only [Bool.not_true, Bool.false_eq_true, if_false, Bool.true_and]; exact r
        · cases h
      · cases h

omit P w in
theorem fit_b {xs : List Value} (h : fitL [.b] xs = true) : ∃ a, xs = [.bool a] := by
  match xs with
  | [] => simp [fitL] at h
  | [x] => cases x <;> simp [fitL, fit] at h; exact ⟨_, rfl⟩
  | _ :: _ :: _ => simp [fitL] at h
omit P w in
theorem fit_i {k : IntKind} {xs : List Value} (h : fitL [.i k] xs = true) : ∃ a, xs = [.int k a] := by
  match xs with
  | [] => simp [fitL] at h
  | [x] => cases x <;> simp [fitL, fit] at h; subst h; exact ⟨_, rfl⟩
  | _ :: _ :: _ => simp [fitL] at h
omit P w in
theorem fit_s {xs : List Value} (h : fitL [.s] xs = true) : ∃ a, xs = [.string a] := by
  match xs with
  | [] => simp [fitL] at h
  | [x] => cases x <;> simp [fitL, fit] at h; exact ⟨_, rfl⟩
  | _ :: _ :: _ => simp [fitL] at h

theorem eq_law : ∀ d, EqLaw P d
  | 0, t, l, h, _, _, _, _, _, _, _ => by simp [eqSh] at h
  | d + 1, t, l, h, D, hD, xs, ys, w, hx, hy => by
    obtain ⟨D, rfl⟩ : ∃ D', D = D' + 1 := ⟨D - 1, by omega⟩
    have hD' : d ≤ D := by omega
    unfold eqSh at h
    split at h
    · rename_i hu
      cases h
      obtain ⟨a, rfl⟩ := fit_b hx
      obtain ⟨b, rfl⟩ := fit_b hy
      have ht : tag P t = some false := by simp [tag, hu]
      simp only [mkV, ht, Option.some.injEq, Bool.false_eq_true, if_false, List.headD]
      rw [run_equalIn_bool' w D t a b hu]
      simp [veqL, veq]
    · rename_i k hu
      cases h
      obtain ⟨a, rfl⟩ := fit_i hx
      obtain ⟨b, rfl⟩ := fit_i hy
      have ht : tag P t = some false := by simp [tag, hu]
      simp only [mkV, ht, Option.some.injEq, Bool.false_eq_true, if_false, List.headD]
      rw [run_equalIn_int w D t k k a b hu]
      congr 1
      simp only [veqL, veq, decide_true, Bool.true_and, Bool.and_true]
      rw [Bool.eq_iff_iff]; simp
    · rename_i hu
      cases h
      obtain ⟨a, rfl⟩ := fit_s hx
      obtain ⟨b, rfl⟩ := fit_s hy
      have ht : tag P t = some false := by simp [tag, hu]
      simp only [mkV, ht, Option.some.injEq, Bool.false_eq_true, if_false, List.headD]
      rw [run_equalIn_string w D t a b hu, str_beq]
      simp [veqL, veq]
    · rename_i n e hu
      split at h
      · rename_i l1 c h1 hc
        split at h
        · rename_i hlc
          cases h
          have ht : tag P t = some true := by simp [tag, hu]
          obtain ⟨i, hi⟩ : ∃ i, P.info? e = some i := by
            unfold tsz at hc
            cases hi : P.info? e with
            | none => simp [hi] at hc
            | some i => exact ⟨i, rfl⟩
          have hce : P.cellsOf e = c := by
            unfold tsz at hc
            simp [Program.cellsOf, hc]
          simp only [mkV, ht, if_true]
          rw [run_equalIn_array w D xs.toArray ys.toArray hu hi, hce, List.range_eq_range']
          have := items_law (eq_law d) h1 hc hlc hD' xs.toArray ys.toArray n 0 w (by simpa using hx) (by simpa using hy)
          simpa using this
        · cases h
      · cases h
    · rename_i fs hu
      split at h
      · cases h
      · rename_i hs
        have ht : tag P t = some true := by simp [tag, hu]
        have hfs : P.fieldsOf t = fs := by simp [Program.fieldsOf, hu]
        simp only [mkV, ht, if_true]
        rw [run_equalIn_struct w D t xs.toArray ys.toArray (by rw [hfs]; exact hu) (by simpa using hs), hfs]
        have := fields_law (eq_law d) hD' xs.toArray ys.toArray fs.toList 0 l w h (by simpa using hx) (by simpa using hy)
        simpa using this
    · cases h

end

end Go.VL

