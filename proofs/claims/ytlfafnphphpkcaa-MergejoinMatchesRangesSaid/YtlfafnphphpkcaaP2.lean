/- Plain law of row 1, part 2: what one round of the merge keeps. -/
import Derived.Test.YtlfafnphphpkcaaP1
namespace Go.R1

theorem okT_sorted {ts : List Int} (h : okT ts) : ∀ {i i' : Nat}, i ≤ i' → i' < ts.length → ts.getD i 0 ≤ ts.getD i' 0 := by
  intro i i' hi hl
  induction i' with
  | zero => have : i = 0 := by omega
            subst this; omega
  | succ n ih =>
    by_cases e : i = n + 1
    · subst e; omega
    · have h1 := ih (by omega) (by omega)
      have h2 := (h (n + 1) hl).2 (by omega)
      simp only [Nat.add_sub_cancel] at h2
      omega

/-- What the beginning of the ranges keeps, before the i-th time. -/
def Fr (xs : List Int) (k s : Int) (ts : List Int) (i fr to : Nat) : Prop :=
  (k = 1 → fr = 0) ∧ (k = 2 → ∀ j, j < fr → ∀ i', i ≤ i' → i' < ts.length → xs.getD j 0 ≤ ts.getD i' 0 - s) ∧
  (k = 3 → ∀ j, j < fr → ∀ i', i ≤ i' → i' < ts.length → xs.getD j 0 < ts.getD i' 0 - (ts.getD i' 0).tmod s) ∧ (k = 4 → fr = back xs s (to - 1))
def To (xs ts : List Int) (i to : Nat) : Prop := to ≤ xs.length ∧ ∀ j, j < to → ∀ i', i ≤ i' → i' < ts.length → xs.getD j 0 ≤ ts.getD i' 0

theorem floor_mono {t t' s : Int} (ht : 0 ≤ t) (h : t ≤ t') (hs : 1 ≤ s) : t - t.tmod s ≤ t' - t'.tmod s := by
  rw [Int.tmod_eq_emod_of_nonneg ht, Int.tmod_eq_emod_of_nonneg (by omega : 0 ≤ t')]
  have h1 := Int.emod_add_mul_ediv t s
  have h2 := Int.emod_add_mul_ediv t' s
  have h3 : t / s ≤ t' / s := Int.ediv_le_ediv (by omega) h
  have h4 : s * (t / s) ≤ s * (t' / s) := Int.mul_le_mul_of_nonneg_left h3 (by omega)
  omega

theorem To_next {xs ts : List Int} (h : okT ts) {i to : Nat} (hl : to ≤ xs.length) (ht : ∀ j, j < to → xs.getD j 0 ≤ ts.getD i 0) : To xs ts (i + 1) to :=
  ⟨hl, fun j hj i' hi hl' => Int.le_trans (ht j hj) (okT_sorted h (by omega) hl')⟩

theorem to_eq {xs : List Int} {t : Int} {to : Nat} (hl : to ≤ xs.length) (ht : ∀ j, j < to → xs.getD j 0 ≤ t) (he : to = xs.length ∨ t < xs.getD to 0) : to = below xs (t + 1) :=
  (below_eq xs (t + 1) to hl (fun j hj => by have := ht j hj; omega) (he.imp id fun h => by omega)).symm

/-- A beginning that a bound gives. -/
theorem fr_eq {xs : List Int} {t B : Int} {fr to : Nat} (hl : to ≤ xs.length) (he : to = xs.length ∨ t < xs.getD to 0) (hB : B ≤ t) (hf : fr ≤ to) (hj : ∀ j, j < fr → xs.getD j 0 ≤ B) (hx : fr = to ∨ B < xs.getD fr 0) : below xs (B + 1) = fr := by
  refine below_eq xs _ fr (by omega) (fun j h => by have := hj j h; omega) ?_
  rcases hx with rfl | hx
  · exact he.imp id fun h => by omega
  · exact .inr (by omega)

end Go.R1
