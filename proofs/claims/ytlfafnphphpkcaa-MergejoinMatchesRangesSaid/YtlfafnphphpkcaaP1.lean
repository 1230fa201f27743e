/- Plain law of row 1: ranges of windows over sorted ticks, in plain Lean. -/
namespace Go.R1

def below (xs : List Int) (n : Int) : Nat := (xs.takeWhile (· < n)).length

theorem takeWhile_len (xs : List Int) (p : Int → Bool) : ∀ k : Nat, k ≤ xs.length → (∀ j, j < k → p (xs.getD j 0) = true) → (k = xs.length ∨ p (xs.getD k 0) = false) → (xs.takeWhile p).length = k := by
  induction xs with
  | nil => intro k hk _ _; simp at hk; simp [hk]
  | cons a r ih =>
    intro k hk hj he
    cases k with
    | zero =>
      rcases he with he | he
      · simp at he
      · simp at he; simp [he]
    | succ k =>
      have h0 : p a = true := by simpa using hj 0 (Nat.succ_pos _)
      simp only [List.takeWhile_cons, h0, if_true, List.length_cons, Nat.succ.injEq]
      refine (ih k (by simpa using hk) (fun j h => by simpa using hj (j + 1) (by omega)) ?_)
      rcases he with he | he
      · exact .inl (by simpa using he)
      · exact .inr (by simpa using he)

theorem below_eq (xs : List Int) (n : Int) (k : Nat) (hk : k ≤ xs.length) (hj : ∀ j, j < k → xs.getD j 0 < n) (he : k = xs.length ∨ ¬ xs.getD k 0 < n) : below xs n = k :=
  takeWhile_len xs _ k hk (fun j h => by simpa using hj j h) (he.imp id fun h => by simpa using h)

def tick (x : Int) : Prop := 0 ≤ x ∧ x ≤ 1099511627776
instance (x : Int) : Decidable (tick x) := by unfold tick; infer_instance
def okT (xs : List Int) : Prop := ∀ j, j < xs.length → tick (xs.getD j 0) ∧ (0 < j → xs.getD (j - 1) 0 ≤ xs.getD j 0)
instance (xs : List Int) : Decidable (okT xs) := by unfold okT; infer_instance
def okW (k s : Int) : Prop := (k = 1 ∧ s = 0) ∨ (k ≠ 1 ∧ 1 < k ∧ k ≤ 4 ∧ 1 ≤ s ∧ s ≤ 1099511627776)
instance (k s : Int) : Decidable (okW k s) := by unfold okW; infer_instance

def usableP (xs : List Int) (k s : Int) (ts : List Int) : Prop := xs.length ≤ 100 ∧ ts.length ≤ 100 ∧ okT xs ∧ okT ts ∧ okW k s
instance (xs : List Int) (k s : Int) (ts : List Int) : Decidable (usableP xs k s ts) := by unfold usableP; infer_instance

def back (xs : List Int) (s : Int) : Nat → Nat
  | 0 => 0
  | i + 1 => if xs.getD (i + 1) 0 - xs.getD i 0 ≤ s then back xs s i else i + 1
def fromR (xs : List Int) (k s t : Int) (to : Nat) : Nat :=
  if k = 1 then 0 else if k = 2 then below xs (t - s + 1) else if k = 3 then below xs (t - t.tmod s)
  else if to = 0 ∨ xs.getD (to - 1) 0 < t - s then to else back xs s (to - 1)
def rangeR (xs : List Int) (k s t : Int) : Nat × Nat := (fromR xs k s t (below xs (t + 1)), below xs (t + 1))
def rangesR (xs : List Int) (k s : Int) (ts : List Int) : List (Nat × Nat) := ts.map (rangeR xs k s)

theorem below_le (xs : List Int) (n : Int) : below xs n ≤ xs.length := (List.takeWhile_sublist _).length_le
theorem back_le (xs : List Int) (s : Int) : ∀ i, back xs s i ≤ i
  | 0 => Nat.le_refl _
  | i + 1 => by
    simp only [back]
    split
    · have := back_le xs s i; omega
    · omega

end Go.R1
