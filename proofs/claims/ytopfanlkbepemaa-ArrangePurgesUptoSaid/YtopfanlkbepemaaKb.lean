/- Merged out of my texts APc APd AS AGb AGc AGd AGe AGf AGg AGh AGi AGj AQ AQb. -/
import Derived.Test.YtopfanlkbepemaaKa
import Derived.Test.YtopfanlkbepemaaVQ
import Derived.Test.YtopfanlkbepemaaProg
set_option linter.unusedSimpArgs false
set_option linter.unusedVariables false
/- Arrangements: the plain law of the marks: two rows with one mark are one. -/
namespace Go.Proofs.Ytopfanlkbepemaa
open Go.VL Go.Ar Go.Proofs.Ytopfanlkbepemaa

theorem byte_eq (n : Int) (i : Nat) : byte n i = n / 2 ^ (8 * i) % 256 := by
  unfold byte
  rw [Int.fdiv_eq_ediv_of_nonneg _ (Int.pow_nonneg (by decide))]
  simp [IntKind.wrap, IntKind.bits, IntKind.signed]
theorem byte_in (n : Int) (i : Nat) : 0 ≤ byte n i ∧ byte n i < 256 := by rw [byte_eq]; omega
theorem step8 {a b : Int} (h : a / 256 = b / 256) (h' : a % 256 = b % 256) : a = b := by omega
theorem bytes8_inj {n m : Int} (hn : inR n) (hm : inR m) (h : bytes8 n = bytes8 m) : n = m := by
  have hb : ∀ i, i < 8 → n / 2 ^ (8 * i) % 256 = m / 2 ^ (8 * i) % 256 := fun i hi => by
    rw [← byte_eq, ← byte_eq]
    exact List.map_inj_left.1 h i (by simpa using hi)
  have down : ∀ j, j ≤ 7 → n / 2 ^ (8 * (7 - j)) = m / 2 ^ (8 * (7 - j)) := by
    intro j
    induction j with
    | zero =>
      intro _
      have h7 := hb 7 (by omega)
      unfold inR at hn hm
      simp only [Nat.sub_zero, show (2 : Int) ^ (8 * 7) = 72057594037927936 from rfl] at h7 ⊢
      omega
    | succ j ih =>
      intro hj
      have h1 := ih (by omega)
      have h2 := hb (7 - (j + 1)) (by omega)
      have e : (2 : Int) ^ (8 * (7 - j)) = 2 ^ (8 * (7 - (j + 1))) * 256 := by
        rw [show 8 * (7 - j) = 8 * (7 - (j + 1)) + 8 by omega, Int.pow_add]; rfl
      rw [e, ← Int.ediv_ediv_of_nonneg (Int.pow_nonneg (by decide)), ← Int.ediv_ediv_of_nonneg (Int.pow_nonneg (by decide))] at h1
      exact step8 h1 h2
  simpa using down 7 (Nat.le_refl _)
theorem bytes8_len (n : Int) : (bytes8 n).length = 8 := by simp [bytes8]

def okV (v : Val) : Prop := inR v.kind ∧ inR v.n ∧ v.s.size < 9223372036854775808
theorem strB_len (s : Str) : (strB s).length = s.size := by simp [strB]
theorem strB_inj {s t : Str} (h : strB s = strB t) : s = t := by
  refine ByteArray.ext (Array.ext' ?_)
  unfold strB at h
  generalize s.data.toList = l at h
  generalize t.data.toList = m at h
  induction l generalizing m with
  | nil => cases m with
    | nil => rfl
    | cons => simp at h
  | cons x l ih => cases m with
    | nil => simp at h
    | cons y m =>
      simp only [List.map_cons, List.cons.injEq] at h
      rw [ih m h.2, UInt8.toNat_inj.1 (by omega : x.toNat = y.toNat)]
theorem encV_inj {v w : Val} {a b : List Int} (hv : okV v) (hw : okV w) (h : encV v ++ a = encV w ++ b) : v = w ∧ a = b := by
  obtain ⟨v1, v2, v3⟩ := hv
  obtain ⟨w1, w2, w3⟩ := hw
  unfold encV at h
  simp only [List.append_assoc] at h
  obtain ⟨e1, h⟩ := List.append_inj h (by rw [bytes8_len, bytes8_len])
  obtain ⟨e2, h⟩ := List.append_inj h (by rw [bytes8_len, bytes8_len])
  obtain ⟨e3, h⟩ := List.append_inj h (by rw [bytes8_len, bytes8_len])
  have q3 := bytes8_inj (show inR (v.s.size : Int) from ⟨by omega, by omega⟩) (show inR (w.s.size : Int) from ⟨by omega, by omega⟩) e3
  obtain ⟨e4, h'⟩ := List.append_inj h (by rw [strB_len, strB_len]; omega)
  have q1 := bytes8_inj v1 w1 e1
  have q2 := bytes8_inj v2 w2 e2
  have q4 := strB_inj e4
  cases v; cases w
  simp only at q1 q2 q4
  subst q1 q2 q4
  exact ⟨rfl, h'⟩
theorem encV_len (v : Val) : 24 ≤ (encV v).length := by simp only [encV, List.length_append, bytes8_len]; omega
theorem encL_inj : ∀ {l m : List Val}, (∀ v ∈ l, okV v) → (∀ v ∈ m, okV v) → encL l = encL m → l = m
  | [], [], _, _, _ => rfl
  | [], w :: m, _, _, h => by
    have := congrArg List.length h
    have hw := encV_len w
    simp only [encL, List.flatMap_nil, List.flatMap_cons, List.length_nil, List.length_append] at this
    omega
  | v :: l, [], _, _, h => by
    have := congrArg List.length h
    have hw := encV_len v
    simp only [encL, List.flatMap_nil, List.flatMap_cons, List.length_nil, List.length_append] at this
    omega
  | v :: l, w :: m, hl, hm, h => by
    simp only [encL, List.flatMap_cons] at h
    obtain ⟨rfl, h'⟩ := encV_inj (hl v List.mem_cons_self) (hm w List.mem_cons_self) h
    rw [encL_inj (fun x hx => hl x (List.mem_cons_of_mem _ hx)) (fun x hx => hm x (List.mem_cons_of_mem _ hx)) h']
theorem encL_in {l : List Val} : ∀ x ∈ encL l, 0 ≤ x ∧ x < 256 := by
  intro x hx
  obtain ⟨v, _, hx⟩ := List.mem_flatMap.1 hx
  have h8 : ∀ n, x ∈ bytes8 n → 0 ≤ x ∧ x < 256 := fun n h => by
    obtain ⟨i, _, rfl⟩ := List.mem_map.1 h
    exact byte_in n i
  unfold encV at hx
  rcases List.mem_append.1 hx with hx | hx
  · rcases List.mem_append.1 hx with hx | hx
    · rcases List.mem_append.1 hx with hx | hx
      · exact h8 _ hx
      · exact h8 _ hx
    · exact h8 _ hx
  · obtain ⟨b, _, rfl⟩ := List.mem_map.1 hx
    have := b.toNat_lt
    omega
theorem strOf_inj : ∀ {a b : List Int}, (∀ x ∈ a, 0 ≤ x ∧ x < 256) → (∀ x ∈ b, 0 ≤ x ∧ x < 256) → strOf a = strOf b → a = b := by
  intro a b ha hb h
  have h' : (a.map fun n => UInt8.ofNat n.toNat) = b.map fun n => UInt8.ofNat n.toNat := by
    have := congrArg (fun s : ByteArray => s.data.toList) h
    simpa [strOf] using this
  clear h
  induction a generalizing b with
  | nil => cases b with
    | nil => rfl
    | cons => simp at h'
  | cons x a ih => cases b with
    | nil => simp at h'
    | cons y b =>
      simp only [List.map_cons, List.cons.injEq] at h'
      have hx := ha x List.mem_cons_self
      have hy := hb y List.mem_cons_self
      have e := congrArg UInt8.toNat h'.1
      rw [UInt8.toNat_ofNat_of_lt' (show x.toNat < 256 by omega), UInt8.toNat_ofNat_of_lt' (show y.toNat < 256 by omega)] at e
      rw [show x = y by omega, ih (fun z hz => ha z (List.mem_cons_of_mem _ hz)) (fun z hz => hb z (List.mem_cons_of_mem _ hz)) h'.2]
def okR (r : Rw) : Prop := ∀ v ∈ r.fields, okV v
theorem mark_inj {a b : Rw} {t u : Int} (ha : okR a) (hb : okR b) : markM a t = markM b u ↔ a = b ∧ t = u := by
  constructor
  · intro h
    simp only [markM, Mrk.mk.injEq] at h
    obtain ⟨h1, h2, h3, h4, h5, h6, h7, h8⟩ := h
    have := encL_inj ha hb (strOf_inj encL_in encL_in h8)
    cases a; cases b; simp_all
  · rintro ⟨rfl, rfl⟩; rfl
end Go.Proofs.Ytopfanlkbepemaa

/- Arrangements: the plain law of the program's consolidation: entries by mark. -/
namespace Go.Proofs.Ytopfanlkbepemaa
open Go.VL Go.Ar Go.Proofs.Ytopfanlkbepemaa

abbrev kM (m : Mrk) : Value := .agg [.string m.id.src, .int .i64 m.id.seq, .string m.table, .string m.key, .int .i64 m.event, .int .i64 m.no, .int .i64 m.rt, .int .i64 m.tick, .string m.text].toArray
abbrev keyOf (x : Dlt) : Value := kM (markM x.row x.tick)
theorem keq_kM (m m' : Mrk) : keq (kM m) (kM m') = decide (m = m') := by
  obtain ⟨⟨a1, a2⟩, a3, a4, a5, a6, a7, a8, a9⟩ := m
  obtain ⟨⟨b1, b2⟩, b3, b4, b5, b6, b7, b8, b9⟩ := m'
  simp only [keq, Value.cells, veqL, veq, Mrk.mk.injEq, FID.mk.injEq]
  rw [Bool.eq_iff_iff]
  simp only [Bool.and_eq_true, decide_eq_true_eq, Bool.and_true, true_and]
  grind

def sameK (x y : Dlt) : Prop := x.tick = y.tick ∧ x.row = y.row
instance (x y : Dlt) : Decidable (sameK x y) := inferInstanceAs (Decidable (_ ∧ _))
abbrev ents (g : List (Nat × Dlt)) : List Ent := g.map fun p => (p.1, keyOf p.2, .agg (cDlt p.2))
def findG (g : List (Nat × Dlt)) (x : Dlt) : Option (Nat × Dlt) := g.find? fun p => decide (sameK x p.2)
def modG (x : Dlt) (n : Int) : List (Nat × Dlt) → List (Nat × Dlt)
  | [] => []
  | p :: g => if sameK x p.2 then (p.1, { p.2 with n := n }) :: g else p :: modG x n g
theorem keq_of {x y : Dlt} (hx : okR x.row) (hy : okR y.row) : keq (keyOf x) (keyOf y) = decide (sameK x y) := by
  rw [keq_kM]
  have := mark_inj (t := x.tick) (u := y.tick) hx hy
  refine decide_eq_decide.2 (this.trans ?_)
  exact ⟨fun h => ⟨h.2, h.1⟩, fun h => ⟨h.2, h.1⟩⟩
theorem findM_ents {x : Dlt} (hx : okR x.row) : ∀ {g : List (Nat × Dlt)}, (∀ p ∈ g, okR p.2.row) → findM (ents g) (keyOf x) = (findG g x).map fun p => .agg (cDlt p.2)
  | [], _ => rfl
  | p :: g, h => by
    have ih := findM_ents hx (g := g) fun q hq => h q (List.mem_cons_of_mem _ hq)
    simp only [findM, findG] at ih ⊢
    simp only [ents, List.map_cons, List.find?_cons, keq_of hx (h p List.mem_cons_self)]
    cases decide (sameK x p.2)
    · exact ih
    · rfl
theorem modM_ents {x : Dlt} (hx : okR x.row) (n : Int) : ∀ {g : List (Nat × Dlt)}, (∀ p ∈ g, okR p.2.row) → modM (keyOf x) (.agg (cDlt { x with n := n })) (ents g) = ents (modG x n g)
  | [], _ => rfl
  | p :: g, h => by
    have ih := modM_ents hx n (g := g) fun q hq => h q (List.mem_cons_of_mem _ hq)
    simp only [ents, List.map_cons, modM, modG, keq_of hx (h p List.mem_cons_self), decide_eq_true_eq] at ih ⊢
    by_cases hs : sameK x p.2
    · obtain ⟨e1, e2⟩ := hs
      rw [if_pos ⟨e1, e2⟩, if_pos ⟨e1, e2⟩]
      simp only [List.map_cons, e1, e2]
    · rw [if_neg hs, if_neg hs, ih]
      rfl
/-- What is said of the entries. -/
structure Good (d : List Dlt) (g : List (Nat × Dlt)) (cl : Nat) : Prop where
  ok : ∀ p ∈ g, p.1 < cl ∧ inR p.2.n ∧ ∃ x ∈ d, x.row = p.2.row
  apart : g.Pairwise fun p q => p.1 < q.1 ∧ ¬ sameK p.2 q.2
  sum : ∀ t r, coef (g.map (·.2)) t r % W64 = coef d t r % W64
theorem findG_none {g : List (Nat × Dlt)} {x : Dlt} (h : findG g x = none) : ∀ p ∈ g, ¬ sameK x p.2 := fun p hp => by
  have := List.find?_eq_none.1 h p hp
  simpa using this
theorem findG_some {g : List (Nat × Dlt)} {x : Dlt} {p : Nat × Dlt} (h : findG g x = some p) : p ∈ g ∧ sameK x p.2 := ⟨List.mem_of_find?_eq_some h, by simpa using List.find?_some h⟩
theorem modG_mem {x : Dlt} {n : Int} : ∀ {g : List (Nat × Dlt)} {q : Nat × Dlt}, q ∈ modG x n g → ∃ p ∈ g, q.1 = p.1 ∧ sameK q.2 p.2 ∧ (q = p ∨ q.2.n = n)
  | [], _, h => by cases h
  | p :: g, q, h => by
    unfold modG at h
    split at h
    · rcases List.mem_cons.1 h with rfl | h
      · exact ⟨p, List.mem_cons_self, rfl, ⟨rfl, rfl⟩, .inr rfl⟩
      · exact ⟨q, List.mem_cons_of_mem _ h, rfl, ⟨rfl, rfl⟩, .inl rfl⟩
    · rcases List.mem_cons.1 h with rfl | h
      · exact ⟨_, List.mem_cons_self, rfl, ⟨rfl, rfl⟩, .inl rfl⟩
      · obtain ⟨p', hp', e⟩ := modG_mem h
        exact ⟨p', List.mem_cons_of_mem _ hp', e⟩
theorem modG_apart {x : Dlt} {n : Int} : ∀ {g : List (Nat × Dlt)}, (g.Pairwise fun p q => p.1 < q.1 ∧ ¬ sameK p.2 q.2) → (modG x n g).Pairwise fun p q => p.1 < q.1 ∧ ¬ sameK p.2 q.2
  | [], h => h
  | p :: g, h => by
    have hc := List.pairwise_cons.1 h
    unfold modG
    split
    · exact List.pairwise_cons.2 ⟨fun q hq => hc.1 q hq, hc.2⟩
    · refine List.pairwise_cons.2 ⟨fun q hq => ?_, modG_apart hc.2⟩
      obtain ⟨p', hp', e1, e2, _⟩ := modG_mem hq
      have := hc.1 p' hp'
      exact ⟨by omega, fun e => this.2 ⟨e.1.trans e2.1, e.2.trans e2.2⟩⟩
theorem modG_coef {x : Dlt} {n : Int} (t : Int) (r : Rw) : ∀ {g : List (Nat × Dlt)} {p : Nat × Dlt}, findG g x = some p → (g.Pairwise fun p q => p.1 < q.1 ∧ ¬ sameK p.2 q.2) → coef ((modG x n g).map (·.2)) t r = coef (g.map (·.2)) t r + (if x.tick = t ∧ x.row = r then n - p.2.n else 0)
  | [], _, h, _ => by cases h
  | q :: g, p, h, hp => by
    have hc := List.pairwise_cons.1 hp
    unfold findG at h
    rw [List.find?_cons] at h
    unfold modG
    by_cases hs : sameK x q.2
    · rw [decide_eq_true hs] at h
      obtain rfl := Option.some.inj h
      rw [if_pos hs]
      obtain ⟨e1, e2⟩ := hs
      simp only [List.map_cons, coef, ← e1, ← e2]
      split <;> omega
    · rw [decide_eq_false hs] at h
      rw [if_neg hs]
      have := modG_coef (x := x) (n := n) t r (g := g) (p := p) h hc.2
      simp only [List.map_cons, coef, this]
      omega
theorem Good.nil : Good [] [] 0 := ⟨by simp, List.Pairwise.nil, fun _ _ => rfl⟩
theorem Good.new {d : List Dlt} {g : List (Nat × Dlt)} {cl : Nat} {x : Dlt} (h : Good d g cl) (hn : findG g x = none) (hx : inR x.n) : Good (d ++ [x]) (g ++ [(cl, x)]) (cl + 1) where
  ok p hp := by
    rcases List.mem_append.1 hp with hp | hp
    · obtain ⟨h1, h2, y, hy, e⟩ := h.ok p hp
      exact ⟨by omega, h2, y, List.mem_append.2 (.inl hy), e⟩
    · rw [List.mem_singleton] at hp; subst hp
      exact ⟨by simp, hx, x, by simp, rfl⟩
  apart := by
    refine List.pairwise_append.2 ⟨h.apart, by simp, fun p hp q hq => ?_⟩
    rw [List.mem_singleton] at hq; subst hq
    exact ⟨(h.ok p hp).1, fun e => findG_none hn p hp ⟨e.1.symm, e.2.symm⟩⟩
  sum t r := by
    have := h.sum t r
    rw [List.map_append, coef_append, coef_append]
    simp only [W64] at this ⊢
    simp only [List.map_cons, List.map_nil, coef]
    omega
theorem Good.old {d : List Dlt} {g : List (Nat × Dlt)} {cl : Nat} {x : Dlt} {p : Nat × Dlt} (h : Good d g cl) (hn : findG g x = some p) : Good (d ++ [x]) (modG x (wrap (x.n + p.2.n)) g) cl where
  ok q hq := by
    obtain ⟨p', hp', e1, e2, e3⟩ := modG_mem hq
    obtain ⟨h1, h2, y, hy, e⟩ := h.ok p' hp'
    refine ⟨by omega, ?_, y, List.mem_append.2 (.inl hy), e.trans e2.2.symm⟩
    rcases e3 with rfl | e3
    · exact h2
    · rw [e3]; exact wrap_in _
  apart := modG_apart h.apart
  sum t r := by
    have := h.sum t r
    have hw := wrap_mod (x.n + p.2.n)
    rw [modG_coef t r hn h.apart, coef_append]
    simp only [W64] at this hw ⊢
    simp only [coef]
    split <;> omega
/-- The entries that are not noughts, sorted, are the consolidation. -/
theorem Good.cons {d : List Dlt} {g : List (Nat × Dlt)} {cl : Nat} (h : Good d g cl) (hd : okN d) {l : List Dlt} (hp : l.Perm ((g.map (·.2)).filter fun x => decide (x.n ≠ 0))) (hs : l.Pairwise fun x y => ¬ cmpD y x < 0) : l = consM d := by
  have hpw : ((g.map (·.2)).filter fun x => decide (x.n ≠ 0)).Pairwise fun x y => ¬ sameK x y :=
    (List.Pairwise.sublist List.filter_sublist (List.pairwise_map.2 (h.apart.imp fun e => e.2)))
  have hpl : l.Pairwise fun x y => ¬ sameK x y := (hp.pairwise_iff fun e e' => e ⟨e'.1.symm, e'.2.symm⟩).2 hpw
  refine eq_consM hd ⟨?_, fun x hx => ?_⟩ fun t r => ?_
  · refine (hs.and hpl).imp fun ⟨h1, h2⟩ => ?_
    rename_i a b _
    cases hab : ltD a b
    · cases hba : ltD b a
      · exact absurd (ltD_eq hab hba) h2
      · rw [ltD_cmp] at hba; exact absurd (by simpa using hba) h1
    · rfl
  · have := hp.mem_iff.1 hx
    obtain ⟨h1, h2⟩ := List.mem_filter.1 this
    obtain ⟨p, hp', rfl⟩ := List.mem_map.1 h1
    exact ⟨by simpa using h2, (h.ok p hp').2.1⟩
  · rw [coef_perm hp, ← h.sum t r]
    congr 1
    generalize g.map (·.2) = m
    induction m with
    | nil => rfl
    | cons x m ih =>
      rw [List.filter_cons]
      split
      · simp only [coef, ih]
      · rename_i h0
        have h0' : x.n = 0 := by simpa using h0
        simp only [coef, ih, h0']
        split <;> omega
theorem modG_len (x : Dlt) (n : Int) : ∀ g : List (Nat × Dlt), (modG x n g).length = g.length
  | [] => rfl
  | p :: g => by
    have := modG_len x n g
    unfold modG
    split <;> simp [this]
/-- The entries that an iteration has not met. -/
def leftG (g : List (Nat × Dlt)) (seen : List Nat) : List (Nat × Dlt) := g.filter fun p => !seen.contains p.1
theorem leftE_ents (g : List (Nat × Dlt)) (seen : List Nat) : leftE (ents g) seen = ents (leftG g seen) := by
  simp only [leftE, ents, leftG, List.filter_map]
  rfl
theorem leftG_step {seen : List Nat} {p : Nat × Dlt} : ∀ {g : List (Nat × Dlt)}, (g.Pairwise fun p q => p.1 < q.1 ∧ ¬ sameK p.2 q.2) → p ∈ leftG g seen → (leftG g seen).Perm (p :: leftG g (seen ++ [p.1]))
  | [], _, h => by cases h
  | q :: g, hp, h => by
    have hc := List.pairwise_cons.1 hp
    have ih := leftG_step (seen := seen) (p := p) hc.2
    unfold leftG at h ih ⊢
    rw [List.filter_cons] at h ⊢
    cases hs : seen.contains q.1
    · simp only [hs, Bool.not_false, if_true] at h ⊢
      rcases List.mem_cons.1 h with rfl | h
      · have e : (seen ++ [p.1]).contains p.1 = true := by simp
        rw [List.filter_cons]
        simp only [e, Bool.not_true, Bool.false_eq_true, if_false]
        refine List.Perm.cons _ ?_
        rw [show g.filter (fun q => !(seen ++ [p.1]).contains q.1) = g.filter (fun q => !seen.contains q.1) from List.filter_congr fun q hq => by
          have := (hc.1 q hq).1
          simp [show ¬ q.1 = p.1 by omega]]
      · have hqp : q.1 < p.1 := (hc.1 p (List.mem_filter.1 h).1).1
        have hs' : ¬ q.1 ∈ seen := by simpa using hs
        have e : (seen ++ [p.1]).contains q.1 = false := by simp [hs', show ¬ q.1 = p.1 by omega]
        rw [List.filter_cons]
        simp only [e, Bool.not_false, if_true]
        exact (List.Perm.cons q (ih h)).trans (List.Perm.swap p q _)
    · simp only [hs, Bool.not_true, Bool.false_eq_true, if_false] at h ⊢
      have hs' : q.1 ∈ seen := by simpa using hs
      have e : (seen ++ [p.1]).contains q.1 = true := by simp [hs']
      rw [List.filter_cons]
      simp only [e, Bool.not_true, Bool.false_eq_true, if_false]
      exact ih h
theorem leftG_less {g : List (Nat × Dlt)} {seen : List Nat} {p : Nat × Dlt} (hg : g.Pairwise fun p q => p.1 < q.1 ∧ ¬ sameK p.2 q.2) (hp : p ∈ leftG g seen) : (leftG g (seen ++ [p.1])).length < (leftG g seen).length := by
  have := (leftG_step hg hp).length_eq
  rw [List.length_cons] at this
  omega
def nz (x : Dlt) : Bool := decide (x.n ≠ 0)
/-- What an iteration has gathered. -/
def Got (g : List (Nat × Dlt)) (seen : List Nat) (acc : List Dlt) : Prop := (acc ++ ((leftG g seen).map (·.2)).filter nz).Perm ((g.map (·.2)).filter nz)
theorem Got.start (g : List (Nat × Dlt)) : Got g [] [] := by
  have : leftG g [] = g := List.filter_eq_self.2 (by simp)
  unfold Got
  rw [this]
  exact List.Perm.refl _
theorem Got.step {g : List (Nat × Dlt)} {seen : List Nat} {acc : List Dlt} {p : Nat × Dlt} (h : Got g seen acc) (hg : g.Pairwise fun p q => p.1 < q.1 ∧ ¬ sameK p.2 q.2) (hp : p ∈ leftG g seen) :
    Got g (seen ++ [p.1]) (if p.2.n ≠ 0 then acc ++ [p.2] else acc) := by
  unfold Got at h ⊢
  refine List.Perm.trans ?_ h
  have hs := ((leftG_step hg hp).map (·.2)).filter nz
  rw [List.map_cons, List.filter_cons] at hs
  by_cases h0 : p.2.n ≠ 0
  · have : nz p.2 = true := by simpa [nz] using h0
    rw [if_pos this] at hs
    rw [if_pos h0, List.append_assoc]
    exact List.Perm.append_left acc hs.symm
  · have : ¬ nz p.2 = true := by simpa [nz] using h0
    rw [if_neg this] at hs
    rw [if_neg h0]
    exact List.Perm.append_left acc hs.symm
theorem Got.len {g : List (Nat × Dlt)} {seen : List Nat} {acc : List Dlt} (h : Got g seen acc) : acc.length ≤ g.length := by
  have := h.length_eq
  have h2 := List.length_filter_le nz (g.map (·.2))
  rw [List.length_append] at this
  rw [List.length_map] at h2
  omega
theorem Got.done {g : List (Nat × Dlt)} {seen : List Nat} {acc : List Dlt} (h : Got g seen acc) (hl : leftG g seen = []) : acc.Perm ((g.map (·.2)).filter nz) := by
  unfold Got at h
  rw [hl] at h
  simpa using h
end Go.Proofs.Ytopfanlkbepemaa

/- SlLaysF0.n6, laid here (printed by lay.py). -/
namespace Go.Proofs
open Go.Shelf
def Try.sortD_ren : Go.Shelf.Ren := ⟨fun | 6 => 72 | 15 => 84 | 14 => 83 | 28 => 103 | 29 => 104 | 20 => 95 | 21 => 96 | 22 => 97 | 23 => 98 | 24 => 99 | 25 => 100 | 26 => 101 | 27 => 102 | 46 => 108 | 47 => 109 | 48 => 110 | 49 => 111 | 50 => 112 | 57 => 115 | n => n, fun | 22 => 41 | 24 => 61 | 25 => 107 | 3 => 3 | 39 => 112 | 0 => 0 | 53 => 130 | 55 => 132 | 4 => 4 | 46 => 124 | 45 => 123 | 50 => 70 | 5 => 5 | 9 => 9 | 66 => 133 | 70 => 137 | 76 => 140 | 77 => 141 | n => n, fun | n => n⟩
theorem Try.sortD : Go.Proofs.SlLaysF0.n6 Try.prog Try.sortD_ren := {
  mixed := by kernel_rfl
  f6 := ⟨Try.f72.name, by decide, Try.func72.trans (congrArg some (by kernel_rfl))⟩
  f14 := ⟨Try.f83.name, by decide, Try.func83.trans (congrArg some (by kernel_rfl))⟩
  f15 := Try.func84.trans (congrArg some (by kernel_rfl))
  f20 := ⟨Try.f95.name, by decide, Try.func95.trans (congrArg some (by kernel_rfl))⟩
  f21 := ⟨Try.f96.name, by decide, Try.func96.trans (congrArg some (by kernel_rfl))⟩
  f22 := ⟨Try.f97.name, by decide, Try.func97.trans (congrArg some (by kernel_rfl))⟩
  f23 := ⟨Try.f98.name, by decide, Try.func98.trans (congrArg some (by kernel_rfl))⟩
  f24 := ⟨Try.f99.name, by decide, Try.func99.trans (congrArg some (by kernel_rfl))⟩
  f25 := ⟨Try.f100.name, by decide, Try.func100.trans (congrArg some (by kernel_rfl))⟩
  f26 := ⟨Try.f101.name, by decide, Try.func101.trans (congrArg some (by kernel_rfl))⟩
  f27 := ⟨Try.f102.name, by decide, Try.func102.trans (congrArg some (by kernel_rfl))⟩
  f28 := Try.func103.trans (congrArg some (by kernel_rfl))
  f29 := Try.func104.trans (congrArg some (by kernel_rfl))
  f46 := ⟨Try.f108.name, by decide, Try.func108.trans (congrArg some (by kernel_rfl))⟩
  f47 := Try.func109.trans (congrArg some (by kernel_rfl))
  f48 := Try.func110.trans (congrArg some (by kernel_rfl))
  f49 := ⟨Try.f111.name, by decide, Try.func111.trans (congrArg some (by kernel_rfl))⟩
  f50 := ⟨Try.f112.name, by decide, Try.func112.trans (congrArg some (by kernel_rfl))⟩
  f57 := ⟨Try.f115.name, by decide, Try.func115.trans (congrArg some (by kernel_rfl))⟩
  t0 := Try.underlying0
  a0 := Try.isAgg0
  z0 := Try.sizeOf0
  v0 := Try.zeroValue0
  t3 := Try.underlying3
  a3 := Try.isAgg3
  z3 := Try.sizeOf3
  v3 := Try.zeroValue3
  t4 := Try.underlying4
  a4 := Try.isAgg4
  z4 := Try.sizeOf4
  v4 := Try.zeroValue4
  t5 := Try.underlying5
  a5 := Try.isAgg5
  z5 := Try.sizeOf5
  v5 := Try.zeroValue5
  t9 := Try.underlying9
  a9 := Try.isAgg9
  z9 := Try.sizeOf9
  v9 := Try.zeroValue9
  t22 := Try.underlying41
  a22 := Try.isAgg41
  z22 := Try.sizeOf41
  v22 := Try.zeroValue41
  t25 := Try.underlying107
  a25 := Try.isAgg107
  z25 := Try.sizeOf107
  v25 := Try.zeroValue107
  t39 := Try.underlying112
  a39 := Try.isAgg112
  z39 := Try.sizeOf112
  v39 := Try.zeroValue112
  t45 := Try.underlying123
  a45 := Try.isAgg123
  z45 := Try.sizeOf123
  v45 := Try.zeroValue123
  t46 := Try.underlying124
  a46 := Try.isAgg124
  z46 := Try.sizeOf124
  v46 := Try.zeroValue124
  t50 := Try.underlying70
  a50 := Try.isAgg70
  z50 := Try.sizeOf70
  v50 := Try.zeroValue70
  t53 := Try.underlying130
  a53 := Try.isAgg130
  z53 := Try.sizeOf130
  v53 := Try.zeroValue130
  t55 := Try.underlying132
  a55 := Try.isAgg132
  z55 := Try.sizeOf132
  v55 := Try.zeroValue132
  t66 := Try.underlying133
  a66 := Try.isAgg133
  z66 := Try.sizeOf133
  v66 := Try.zeroValue133
  t70 := Try.underlying137
  a70 := Try.isAgg137
  z70 := Try.sizeOf137
  v70 := Try.zeroValue137
  t76 := Try.underlying140
  a76 := Try.isAgg140
  z76 := Try.sizeOf140
  v76 := Try.zeroValue140
  t77 := Try.underlying141
  a77 := Try.isAgg141
  z77 := Try.sizeOf141
  v77 := Try.zeroValue141 }
end Go.Proofs

/- Arrangements: contracts, part f: the program's consolidation. -/
set_option linter.unusedSimpArgs false
set_option maxRecDepth 100000
namespace Go.Proofs.Ytopfanlkbepemaa
open Go.VL Go.Ar Go.Proofs.Ytopfanlkbepemaa

/-- What is asked of a row: its mark's text must fit. -/
def fitR (r : Rw) : Prop := r.fields.length ≤ big ∧ (encL r.fields).length ≤ 1099511627776 ∧ okR r
def fitDs (d : List Dlt) : Prop := d.length ≤ big ∧ ∀ x ∈ d, inR x.n ∧ fitR x.row

theorem sortD_nil : OkP Try.prog 72 [nilS, .lit (.func (.func 73) #[] #[])] (.tup []) := Ok.sortNil Try.sortD 0 _
theorem sortD_box (l : List Dlt) (hl : ∀ x ∈ l, okF x.row) (rest : List V) (b cap : Nat) (hsz : l.length < 4611686018427387904) :
    Ok Try.prog 72 [.lit (.slice (some ⟨b, 0, none⟩) l.length cap), .lit (.func (.func 73) #[] #[])] [(b, .c ((l.map cDlt).flatten ++ rest))] fun v bs rs =>
      v = .tup [] ∧ rs = [] ∧ ∃ l' : List Dlt, l'.Perm l ∧ l'.Pairwise (fun x y => ¬ cmpD y x < 0) ∧ bs = [(b, .c ((l'.map cDlt).flatten ++ rest))] :=
  Ok.sortFunc Try.sortD (k := 10) Try.isAgg61 Try.sizeOf61 cDlt (fun _ => rfl) cmpD (pre_swo pre_cmpD) (g := 73) (enters_of Try.func73 (by kernel_rfl) rfl) l
    (fun x hx y hy => cmpD_ok x y (hl x hx) (hl y hy)) rest b cap hsz

theorem cellsD_len (l : List Dlt) : (l.map cDlt).flatten.length = l.length * 10 := by
  induction l with
  | nil => rfl
  | cons x l ih => simp only [List.map_cons, List.flatten_cons, List.length_append, ih, List.length_cons, List.length_nil]; omega
theorem anys_len (n : Nat) : (anys n).length = n := by simp [anys]

set_option linter.defProp false in
def tbAGb0 := (And.intro (And.intro (And.intro (And.intro (And.intro (And.intro Ty.sz3 (And.intro Ty.by3 Ty.ag3)) (And.intro Ty.zr3 (And.intro Ty.un3 Ty.sz4))) (And.intro (And.intro Ty.by4 (And.intro Ty.ag4 Ty.zr4)) (And.intro (And.intro Ty.un4 Ty.sz9) (And.intro Ty.by9 Ty.ag9)))) (And.intro (And.intro (And.intro Ty.zr9 (And.intro Ty.un9 Ty.sz41)) (And.intro (And.intro Ty.by41 Ty.ag41) (And.intro Ty.zr41 Ty.un41))) (And.intro (And.intro Ty.sz53 (And.intro Ty.by53 Ty.ag53)) (And.intro (And.intro Ty.zr53 Ty.fl53_0) (And.intro Ty.pl53_0 Ty.fl53_1))))) (And.intro (And.intro (And.intro (And.intro Ty.pl53_1 (And.intro Ty.sz54 Ty.by54)) (And.intro (And.intro Ty.ag54 Ty.zr54) (And.intro Ty.un54 Ty.sz56))) (And.intro (And.intro Ty.by56 (And.intro Ty.ag56 Ty.zr56)) (And.intro (And.intro Ty.fl56_0 Ty.pl56_0) (And.intro Ty.fl56_1 Ty.pl56_1)))) (And.intro (And.intro (And.intro Ty.fl56_2 (And.intro Ty.pl56_2 Ty.fl56_3)) (And.intro (And.intro Ty.pl56_3 Ty.fl56_4) (And.intro Ty.pl56_4 Ty.fl56_5))) (And.intro (And.intro Ty.pl56_5 (And.intro Ty.fl56_6 Ty.pl56_6)) (And.intro (And.intro Ty.sz61 Ty.by61) (And.intro Ty.ag61 Ty.zr61)))))) (And.intro (And.intro (And.intro (And.intro (And.intro Ty.fl61_0 (And.intro Ty.pl61_0 Ty.fl61_1)) (And.intro Ty.pl61_1 (And.intro Ty.fl61_2 Ty.pl61_2))) (And.intro (And.intro Ty.sz101 (And.intro Ty.by101 Ty.ag101)) (And.intro (And.intro Ty.zr101 Ty.un101) (And.intro Ty.sz103 Ty.by103)))) (And.intro (And.intro (And.intro Ty.ag103 (And.intro Ty.zr103 Ty.fl103_0)) (And.intro (And.intro Ty.pl103_0 Ty.fl103_1) (And.intro Ty.pl103_1 Ty.fl103_2))) (And.intro (And.intro Ty.pl103_2 (And.intro Ty.fl103_3 Ty.pl103_3)) (And.intro (And.intro Ty.fl103_4 Ty.pl103_4) (And.intro Ty.fl103_5 Ty.pl103_5))))) (And.intro (And.intro (And.intro (And.intro Ty.fl103_6 (And.intro Ty.pl103_6 Ty.fl103_7)) (And.intro (And.intro Ty.pl103_7 Ty.sz105) (And.intro Ty.by105 Ty.ag105))) (And.intro (And.intro Ty.sz107 (And.intro Ty.by107 Ty.ag107)) (And.intro (And.intro Ty.zr107 Ty.sz109) (And.intro Ty.by109 Ty.ag109)))) (And.intro (And.intro (And.intro Ty.zr109 (And.intro Ty.fl109_0 Ty.pl109_0)) (And.intro (And.intro Ty.fl109_1 Ty.pl109_1) (And.intro Ty.fl109_2 Ty.pl109_2))) (And.intro (And.intro Ty.eq53 (And.intro Ty.eq103 Ty.eq109)) (And.intro (And.intro Ty.mp101 Ty.cb71) (And.intro Ty.cb72 Ty.cb73)))))))
theorem cons_ok (d : List Dlt) (hd : fitDs d) : OkP Try.prog 53 [vDlts d] (vDlts (consM d)) := by
  obtain ⟨hd1, hd2⟩ := hd
  unfold big at hd1
  have hdn : okN d := fun x hx => (hd2 x hx).1
  refine Ok.norows (Q := fun v bs rs => bs = [] ∧ rs = [] ∧ ((v = nilS ∧ consM d = []) ∨ ∃ y, v = .list (some y) 10 ((consM d).map cDlt))) (Ok.freeze (Q := fun v bs rs => rs = [] ∧ ((v = nilS ∧ bs = [] ∧ consM d = []) ∨ ∃ b c, v = .lit (.slice (some ⟨b, 0, none⟩) (consM d).length c) ∧ (consM d).length ≤ c ∧ bs = [(b, .c (((consM d).map cDlt).flatten ++ anys ((c - (consM d).length) * 10)))])) ?_ fun v bs rs h => ?_) fun v bs rs h => ?_
  rotate_left
  · obtain ⟨rfl, ⟨rfl, rfl, h⟩ | ⟨b, c, rfl, hc, rfl⟩⟩ := h
    · exact .inl ⟨rfl, rfl, .inl ⟨rfl, h⟩⟩
    · exact .inr ⟨b, (consM d).length, c, 10, _, (consM d).map cDlt, [], _, List.Perm.refl _, ⟨List.take_left' (cellsD_len _), fun e he => by obtain ⟨x, _, rfl⟩ := List.mem_map.1 he; rfl, by simp, hc⟩, .here, rfl, rfl, .inr ⟨_, rfl⟩⟩
  · obtain ⟨rfl, rfl, ⟨rfl, h⟩ | ⟨y, rfl⟩⟩ := h
    · exact ⟨vDlts (consM d), [], [], by rw [h]; exact Le.nil 10, List.nil_sublist _, List.nil_sublist _, rfl, rfl, rfl⟩
    · exact ⟨vDlts (consM d), [], [], Le.list _ _ _, List.nil_sublist _, List.nil_sublist _, rfl, rfl, rfl⟩
  refine Ok.of_ex Ty.mixed Try.func53 rfl (by simp [Try.ntmps53]) (by kernel_rfl) fun F w0 I0 => ?_
  simp only [↓ruleA0, ↓ruleA1, ↓ruleA2, ruleB0, ruleB1, ruleB2, ruleB3, ruleL, ↓retK, ncall, Todo_eq, packV, eqTB, litB, litV, fitL, fit, veqL, veq, sbin, sun, nilB, cellsV, oneB, okC, vals, fillV, partsE, Int.reduceLE, Int.reduceLT, Int.reduceToNat, Nat.reduceAdd, Nat.reduceEqDiff, Nat.reduceLT, Nat.reduceLeDiff, Nat.reduceMul, Nat.reduceSub, reduceCtorEq, tbAGb0, Try.results53]
  refine fun bm hm => ?_; replace hm := newb hm; try simp only [Nb] at hm
  simp only [↓ruleA0, ↓ruleA1, ↓ruleA2, ruleB0, ruleB1, ruleB2, ruleB3, ruleL, ↓retK, ncall, Todo_eq, packV, eqTB, litB, litV, fitL, fit, veqL, veq, sbin, sun, nilB, cellsV, oneB, okC, vals, fillV, partsE, Int.reduceLE, Int.reduceLT, Int.reduceToNat, Nat.reduceAdd, Nat.reduceEqDiff, Nat.reduceLT, Nat.reduceLeDiff, Nat.reduceMul, Nat.reduceSub, reduceCtorEq, tbAGb0, Try.results53]
  refine EX_for Ty.mixed (by kernel_rfl) d.length (fun i S => ∃ g cl, (Good (d.take i) g cl ∧ g.length ≤ i) ∧ S.σ 0 = vDlts d ∧ S.σ 2 = nilS ∧ S.σ 3 = .lit (.map (some bm)) ∧ S.σ 12 = vDlts d ∧ S.σ 13 = vint d.length ∧ S.σ 14 = vint i ∧ S.boxes = [(bm, .m ([.s, .i .i64, .s, .s, .i .i64, .i .i64, .i .i64, .i .i64, .s], true) (ents g) cl)] ∧ S.rows = []) ⟨0, [], 0, ⟨Good.nil, by simp⟩, ?_⟩ (fun i S hi ⟨g, cl, ⟨hg, hgl⟩, g0, g2, g3, g12, g13, g14, gb, gr⟩ => ?_) (fun S ⟨g, cl, ⟨hg, hgl⟩, g0, g2, g3, g12, g13, g14, gb, gr⟩ => ?_)
  · simp only [↓ruleA0, ↓ruleA1, ↓ruleA2, ruleB0, ruleB1, ruleB2, ruleB3, ruleL, ↓retK, ncall, Todo_eq, packV, eqTB, litB, litV, fitL, fit, veqL, veq, sbin, sun, nilB, cellsV, oneB, okC, vals, fillV, partsE, Int.reduceLE, Int.reduceLT, Int.reduceToNat, Nat.reduceAdd, Nat.reduceEqDiff, Nat.reduceLT, Nat.reduceLeDiff, Nat.reduceMul, Nat.reduceSub, reduceCtorEq, tbAGb0, Try.results53, List.length_map]
  · have hxm : d[i] ∈ d := List.getElem_mem hi
    generalize hx : d[i] = x at hxm
    obtain ⟨hxn, hxf1, hxf2, hxo⟩ := hd2 x hxm
    simp only [↓ruleA0, ↓ruleA1, ↓ruleA2, ruleB0, ruleB1, ruleB2, ruleB3, ruleL, ↓retK, ncall, Todo_eq, packV, eqTB, litB, litV, fitL, fit, veqL, veq, sbin, sun, nilB, cellsV, oneB, okC, vals, fillV, partsE, Int.reduceLE, Int.reduceLT, Int.reduceToNat, Nat.reduceAdd, Nat.reduceEqDiff, Nat.reduceLT, Nat.reduceLeDiff, Nat.reduceMul, Nat.reduceSub, reduceCtorEq, tbAGb0, Try.results53, g0, g2, g3, g12, g13, g14, gb, gr, hm, Int.ofNat_lt, hi, List.length_map, getD_map, hx]
    refine fun b5 h5 => ?_; replace h5 := newb h5; try simp only [Nb] at h5
    simp only [↓ruleA0, ↓ruleA1, ↓ruleA2, ruleB0, ruleB1, ruleB2, ruleB3, ruleL, ↓retK, ncall, Todo_eq, packV, eqTB, litB, litV, fitL, fit, veqL, veq, sbin, sun, nilB, cellsV, oneB, okC, vals, fillV, partsE, Int.reduceLE, Int.reduceLT, Int.reduceToNat, Nat.reduceAdd, Nat.reduceEqDiff, Nat.reduceLT, Nat.reduceLeDiff, Nat.reduceMul, Nat.reduceSub, reduceCtorEq, tbAGb0, Try.results53, g0, g2, g3, g12, g13, g14, gb, gr, hm, h5]
    refine OkF_of _ (mark_ok x.row x.tick hxf1 hxf2) ?_
    simp only [↓ruleA0, ↓ruleA1, ↓ruleA2, ruleB0, ruleB1, ruleB2, ruleB3, ruleL, ↓retK, ncall, Todo_eq, packV, eqTB, litB, litV, fitL, fit, veqL, veq, sbin, sun, nilB, cellsV, oneB, okC, vals, fillV, partsE, Int.reduceLE, Int.reduceLT, Int.reduceToNat, Nat.reduceAdd, Nat.reduceEqDiff, Nat.reduceLT, Nat.reduceLeDiff, Nat.reduceMul, Nat.reduceSub, reduceCtorEq, tbAGb0, Try.results53, g0, g2, g3, g12, g13, g14, gb, gr, hm, h5]
    refine fun b6 h6 => ?_; replace h6 := newb h6; try simp only [Nb] at h6
    simp only [↓ruleA0, ↓ruleA1, ↓ruleA2, ruleB0, ruleB1, ruleB2, ruleB3, ruleL, ↓retK, ncall, Todo_eq, packV, eqTB, litB, litV, fitL, fit, veqL, veq, sbin, sun, nilB, cellsV, oneB, okC, vals, fillV, partsE, Int.reduceLE, Int.reduceLT, Int.reduceToNat, Nat.reduceAdd, Nat.reduceEqDiff, Nat.reduceLT, Nat.reduceLeDiff, Nat.reduceMul, Nat.reduceSub, reduceCtorEq, tbAGb0, Try.results53, g0, g2, g3, g12, g13, g14, gb, gr, hm, h5, h6]
    have hgo : ∀ p ∈ g, okR p.2.row := fun p hp => by
      obtain ⟨_, _, y, hy, e⟩ := hg.ok p hp
      rw [← e]
      exact (hd2 y (List.mem_of_mem_take hy)).2.2.2
    have hfm := findM_ents hxo hgo
    have htk : d.take (i + 1) = d.take i ++ [x] := by rw [List.take_succ_eq_append_getElem hi, hx]
    have hmm := fun n => modM_ents hxo n hgo
    rw [hfm]
    cases hfg : findG g x with
    | none =>
      rw [hfg] at hfm
      simp only [Option.map_none] at hfm
      have hnew := hg.new hfg hxn
      rw [← htk] at hnew
      simp only [↓ruleA0, ↓ruleA1, ↓ruleA2, ruleB0, ruleB1, ruleB2, ruleB3, ruleL, ↓retK, ncall, Todo_eq, packV, eqTB, litB, litV, fitL, fit, veqL, veq, sbin, sun, nilB, cellsV, oneB, okC, vals, fillV, partsE, Int.reduceLE, Int.reduceLT, Int.reduceToNat, Nat.reduceAdd, Nat.reduceEqDiff, Nat.reduceLT, Nat.reduceLeDiff, Nat.reduceMul, Nat.reduceSub, reduceCtorEq, tbAGb0, Try.results53, g0, g2, g3, g12, g13, g14, gb, gr, hm, h5, h6]
      refine fun b7 h7 => ?_; replace h7 := newb h7; try simp only [Nb] at h7
      simp only [↓ruleA0, ↓ruleA1, ↓ruleA2, ruleB0, ruleB1, ruleB2, ruleB3, ruleL, ↓retK, ncall, Todo_eq, packV, eqTB, litB, litV, fitL, fit, veqL, veq, sbin, sun, nilB, cellsV, oneB, okC, vals, fillV, partsE, Int.reduceLE, Int.reduceLT, Int.reduceToNat, Nat.reduceAdd, Nat.reduceEqDiff, Nat.reduceLT, Nat.reduceLeDiff, Nat.reduceMul, Nat.reduceSub, reduceCtorEq, tbAGb0, Try.results53, g0, g2, g3, g12, g13, g14, gb, gr, hm, h5, h6, h7]
      rw [hfm]
      simp only [↓ruleA0, ↓ruleA1, ↓ruleA2, ruleB0, ruleB1, ruleB2, ruleB3, ruleL, ↓retK, ncall, Todo_eq, packV, eqTB, litB, litV, fitL, fit, veqL, veq, sbin, sun, nilB, cellsV, oneB, okC, vals, fillV, partsE, Int.reduceLE, Int.reduceLT, Int.reduceToNat, Nat.reduceAdd, Nat.reduceEqDiff, Nat.reduceLT, Nat.reduceLeDiff, Nat.reduceMul, Nat.reduceSub, reduceCtorEq, tbAGb0, Try.results53, g0, g2, g3, g12, g13, g14, gb, gr, hm, h5, h6, h7, wrap_succ hi (Nat.le_trans hd1 (by decide))]
      refine ⟨3, g ++ [(cl, x)], cl + 1, ⟨hnew, by simp; omega⟩, ?_⟩
      simp only [List.drop_succ_cons, List.drop_zero, ents, List.map_append, List.map_cons, List.map_nil]
    | some p =>
      rw [hfg] at hfm
      simp only [Option.map_some] at hfm
      have hold := hg.old hfg
      rw [← htk] at hold
      simp only [↓ruleA0, ↓ruleA1, ↓ruleA2, ruleB0, ruleB1, ruleB2, ruleB3, ruleL, ↓retK, ncall, Todo_eq, packV, eqTB, litB, litV, fitL, fit, veqL, veq, sbin, sun, nilB, cellsV, oneB, okC, vals, fillV, partsE, Int.reduceLE, Int.reduceLT, Int.reduceToNat, Nat.reduceAdd, Nat.reduceEqDiff, Nat.reduceLT, Nat.reduceLeDiff, Nat.reduceMul, Nat.reduceSub, reduceCtorEq, tbAGb0, Try.results53, g0, g2, g3, g12, g13, g14, gb, gr, hm, h5, h6]
      refine fun b7 h7 => ?_; replace h7 := newb h7; try simp only [Nb] at h7
      simp only [↓ruleA0, ↓ruleA1, ↓ruleA2, ruleB0, ruleB1, ruleB2, ruleB3, ruleL, ↓retK, ncall, Todo_eq, packV, eqTB, litB, litV, fitL, fit, veqL, veq, sbin, sun, nilB, cellsV, oneB, okC, vals, fillV, partsE, Int.reduceLE, Int.reduceLT, Int.reduceToNat, Nat.reduceAdd, Nat.reduceEqDiff, Nat.reduceLT, Nat.reduceLeDiff, Nat.reduceMul, Nat.reduceSub, reduceCtorEq, tbAGb0, Try.results53, g0, g2, g3, g12, g13, g14, gb, gr, hm, h5, h6, h7]
      rw [hfm]
      simp only [↓ruleA0, ↓ruleA1, ↓ruleA2, ruleB0, ruleB1, ruleB2, ruleB3, ruleL, ↓retK, ncall, Todo_eq, packV, eqTB, litB, litV, fitL, fit, veqL, veq, sbin, sun, nilB, cellsV, oneB, okC, vals, fillV, partsE, Int.reduceLE, Int.reduceLT, Int.reduceToNat, Nat.reduceAdd, Nat.reduceEqDiff, Nat.reduceLT, Nat.reduceLeDiff, Nat.reduceMul, Nat.reduceSub, reduceCtorEq, tbAGb0, Try.results53, g0, g2, g3, g12, g13, g14, gb, gr, hm, h5, h6, h7, wrap_succ hi (Nat.le_trans hd1 (by decide))]
      refine ⟨3, _, cl, ⟨hold, by rw [modG_len]; omega⟩, ?_⟩
      rw [← hmm]
      rfl
  · simp only [↓ruleA0, ↓ruleA1, ↓ruleA2, ruleB0, ruleB1, ruleB2, ruleB3, ruleL, ↓retK, ncall, Todo_eq, packV, eqTB, litB, litV, fitL, fit, veqL, veq, sbin, sun, nilB, cellsV, oneB, okC, vals, fillV, partsE, Int.reduceLE, Int.reduceLT, Int.reduceToNat, Nat.reduceAdd, Nat.reduceEqDiff, Nat.reduceLT, Nat.reduceLeDiff, Nat.reduceMul, Nat.reduceSub, reduceCtorEq, tbAGb0, Try.results53, g0, g2, g3, g12, g13, g14, gb, gr, hm, Int.ofNat_lt, Nat.lt_irrefl, List.length_map]
    rw [List.take_of_length_le (Nat.le_refl _)] at hg
    refine fun ib hi => ?_; replace hi := newb hi; try simp only [Nb] at hi
    simp only [↓ruleA0, ↓ruleA1, ↓ruleA2, ruleB0, ruleB1, ruleB2, ruleB3, ruleL, ↓retK, ncall, Todo_eq, packV, eqTB, litB, litV, fitL, fit, veqL, veq, sbin, sun, nilB, cellsV, oneB, okC, vals, fillV, partsE, Int.reduceLE, Int.reduceLT, Int.reduceToNat, Nat.reduceAdd, Nat.reduceEqDiff, Nat.reduceLT, Nat.reduceLeDiff, Nat.reduceMul, Nat.reduceSub, reduceCtorEq, tbAGb0, Try.results53, g0, g2, g3, g12, g13, g14, gb, gr, hm, hi]
    refine EX_whileS Ty.mixed (by kernel_rfl) (fun x => (leftG g x.1).length) (fun (x : List Nat × List Dlt) S => Got g x.1 x.2 ∧ S.σ 41 = ptr ib ∧ S.rows = [] ∧ ((x.2 = [] ∧ S.σ 2 = nilS ∧ S.boxes = [(ib, .it bm cl x.1 cl), (bm, .m ([.s, .i .i64, .s, .s, .i .i64, .i .i64, .i .i64, .i .i64, .s], true) (ents g) cl)]) ∨
      ∃ b c, (x.2.length ≤ c ∧ ib ≠ b ∧ bm ≠ b) ∧ S.σ 2 = .lit (.slice (some ⟨b, 0, none⟩) x.2.length c) ∧ S.boxes = [(b, .c ((x.2.map cDlt).flatten ++ anys ((c - x.2.length) * 10))), (ib, .it bm cl x.1 cl), (bm, .m ([.s, .i .i64, .s, .s, .i .i64, .i .i64, .i .i64, .i .i64, .s], true) (ents g) cl)])) ([], [])
      ⟨_, _, List.Sublist.refl _, List.Sublist.refl _, Got.start g, ?_⟩ (fun ⟨seen, acc⟩ S ⟨hgot, g41, gr, hb⟩ => ?_)
    · simp only [↓ruleA0, ↓ruleA1, ↓ruleA2, ruleB0, ruleB1, ruleB2, ruleB3, ruleL, ↓retK, ncall, Todo_eq, packV, eqTB, litB, litV, fitL, fit, veqL, veq, sbin, sun, nilB, cellsV, oneB, okC, vals, fillV, partsE, Int.reduceLE, Int.reduceLT, Int.reduceToNat, Nat.reduceAdd, Nat.reduceEqDiff, Nat.reduceLT, Nat.reduceLeDiff, Nat.reduceMul, Nat.reduceSub, reduceCtorEq, tbAGb0, Try.results53, g0, g2, g3, g12, g13, g14, gb, gr, hm, hi]
    · simp only at hgot hb
      have hacc := hgot.len
      have hfa : ∀ x ∈ acc, okF x.row := fun x hx => by
        have := List.mem_filter.1 (hgot.mem_iff.1 (List.mem_append.2 (.inl hx)))
        obtain ⟨p, hp, rfl⟩ := List.mem_map.1 this.1
        obtain ⟨_, _, y, hy, e⟩ := hg.ok p hp
        rw [← e]
        have := (hd2 y hy).2.1
        unfold okF
        unfold big at this
        omega
      rcases hb with ⟨ha, g2, gb⟩ | ⟨b, c, ⟨hlc, hb1, hb2⟩, g2, gb⟩
      · subst ha
        simp only [↓ruleA0, ↓ruleA1, ↓ruleA2, ruleB0, ruleB1, ruleB2, ruleB3, ruleL, ↓retK, ncall, Todo_eq, packV, eqTB, litB, litV, fitL, fit, veqL, veq, sbin, sun, nilB, cellsV, oneB, okC, vals, fillV, partsE, Int.reduceLE, Int.reduceLT, Int.reduceToNat, Nat.reduceAdd, Nat.reduceEqDiff, Nat.reduceLT, Nat.reduceLeDiff, Nat.reduceMul, Nat.reduceSub, reduceCtorEq, tbAGb0, Try.results53, g2, g41, gb, gr, hm, hi]
        refine ⟨fun hl => ?_, fun e he hf => ?_⟩
        · simp only [↓ruleA0, ↓ruleA1, ↓ruleA2, ruleB0, ruleB1, ruleB2, ruleB3, ruleL, ↓retK, ncall, Todo_eq, packV, eqTB, litB, litV, fitL, fit, veqL, veq, sbin, sun, nilB, cellsV, oneB, okC, vals, fillV, partsE, Int.reduceLE, Int.reduceLT, Int.reduceToNat, Nat.reduceAdd, Nat.reduceEqDiff, Nat.reduceLT, Nat.reduceLeDiff, Nat.reduceMul, Nat.reduceSub, reduceCtorEq, tbAGb0, Try.results53, g2, g41, gb, gr, hm, hi]
          refine OkF_of _ sortD_nil ?_
          simp only [↓ruleA0, ↓ruleA1, ↓ruleA2, ruleB0, ruleB1, ruleB2, ruleB3, ruleL, ↓retK, ncall, Todo_eq, packV, eqTB, litB, litV, fitL, fit, veqL, veq, sbin, sun, nilB, cellsV, oneB, okC, vals, fillV, partsE, Int.reduceLE, Int.reduceLT, Int.reduceToNat, Nat.reduceAdd, Nat.reduceEqDiff, Nat.reduceLT, Nat.reduceLeDiff, Nat.reduceMul, Nat.reduceSub, reduceCtorEq, tbAGb0, Try.results53, g2, g41, gb, gr, hm, hi]
          rw [leftE_ents] at hl
          have hcons := hg.cons hdn (hgot.done (by simpa [ents] using hl)) List.Pairwise.nil
          exact ⟨nilS, [], [], Le.refl _, List.nil_sublist _, List.nil_sublist _, rfl, .inl ⟨rfl, rfl, hcons.symm⟩⟩
        · rw [leftE_ents] at he
          obtain ⟨p, hp, rfl⟩ := List.mem_map.1 he
          have hp0 := (List.mem_filter.1 hp).1
          have hst := hgot.step hg.apart hp
          have hmu := leftG_less hg.apart hp
          have hlast : (seen ++ [p.1]).getLast? = some p.1 := by simp
          simp only at hf
          simp only [↓ruleA0, ↓ruleA1, ↓ruleA2, ruleB0, ruleB1, ruleB2, ruleB3, ruleL, ↓retK, ncall, Todo_eq, packV, eqTB, litB, litV, fitL, fit, veqL, veq, sbin, sun, nilB, cellsV, oneB, okC, vals, fillV, partsE, Int.reduceLE, Int.reduceLT, Int.reduceToNat, Nat.reduceAdd, Nat.reduceEqDiff, Nat.reduceLT, Nat.reduceLeDiff, Nat.reduceMul, Nat.reduceSub, reduceCtorEq, tbAGb0, Try.results53, g2, g41, gb, gr, hm, hi, hlast, hf]
          refine fun b10 h10 => ?_; replace h10 := newb h10; try simp only [Nb] at h10
          simp only [↓ruleA0, ↓ruleA1, ↓ruleA2, ruleB0, ruleB1, ruleB2, ruleB3, ruleL, ↓retK, ncall, Todo_eq, packV, eqTB, litB, litV, fitL, fit, veqL, veq, sbin, sun, nilB, cellsV, oneB, okC, vals, fillV, partsE, Int.reduceLE, Int.reduceLT, Int.reduceToNat, Nat.reduceAdd, Nat.reduceEqDiff, Nat.reduceLT, Nat.reduceLeDiff, Nat.reduceMul, Nat.reduceSub, reduceCtorEq, tbAGb0, Try.results53, g2, g41, gb, gr, hm, hi, hlast, hf, h10]
          by_cases h0 : p.2.n = 0
          · rw [if_neg (by simpa using h0)] at hst
            simp only [↓ruleA0, ↓ruleA1, ↓ruleA2, ruleB0, ruleB1, ruleB2, ruleB3, ruleL, ↓retK, ncall, Todo_eq, packV, eqTB, litB, litV, fitL, fit, veqL, veq, sbin, sun, nilB, cellsV, oneB, okC, vals, fillV, partsE, Int.reduceLE, Int.reduceLT, Int.reduceToNat, Nat.reduceAdd, Nat.reduceEqDiff, Nat.reduceLT, Nat.reduceLeDiff, Nat.reduceMul, Nat.reduceSub, reduceCtorEq, tbAGb0, Try.results53, g2, g41, gb, gr, hm, hi, h10, h0]
            refine ⟨(seen ++ [p.1], []), hmu, _, _, List.Sublist.cons _ (List.Sublist.refl _), List.Sublist.refl _, hst, ?_⟩
            simp only [↓ruleA0, ↓ruleA1, ↓ruleA2, ruleB0, ruleB1, ruleB2, ruleB3, ruleL, ↓retK, ncall, Todo_eq, packV, eqTB, litB, litV, fitL, fit, veqL, veq, sbin, sun, nilB, cellsV, oneB, okC, vals, fillV, partsE, Int.reduceLE, Int.reduceLT, Int.reduceToNat, Nat.reduceAdd, Nat.reduceEqDiff, Nat.reduceLT, Nat.reduceLeDiff, Nat.reduceMul, Nat.reduceSub, reduceCtorEq, tbAGb0, Try.results53, g2, g41, gb, gr, hm, hi, h10, h0]

          · rw [if_pos h0] at hst
            simp only [↓ruleA0, ↓ruleA1, ↓ruleA2, ruleB0, ruleB1, ruleB2, ruleB3, ruleL, ↓retK, ncall, Todo_eq, packV, eqTB, litB, litV, fitL, fit, veqL, veq, sbin, sun, nilB, cellsV, oneB, okC, vals, fillV, partsE, Int.reduceLE, Int.reduceLT, Int.reduceToNat, Nat.reduceAdd, Nat.reduceEqDiff, Nat.reduceLT, Nat.reduceLeDiff, Nat.reduceMul, Nat.reduceSub, reduceCtorEq, tbAGb0, Try.results53, g2, g41, gb, gr, hm, hi, h10, h0]
            refine fun y => Or2.r ?_
            simp only [↓ruleA0, ↓ruleA1, ↓ruleA2, ruleB0, ruleB1, ruleB2, ruleB3, ruleL, ↓retK, ncall, Todo_eq, packV, eqTB, litB, litV, fitL, fit, veqL, veq, sbin, sun, nilB, cellsV, oneB, okC, vals, fillV, partsE, Int.reduceLE, Int.reduceLT, Int.reduceToNat, Nat.reduceAdd, Nat.reduceEqDiff, Nat.reduceLT, Nat.reduceLeDiff, Nat.reduceMul, Nat.reduceSub, reduceCtorEq, tbAGb0, Try.results53, g2, g41, gb, gr, hm, hi, h10, h0]
            refine fun b c hb hc => ?_
            replace hb := newb hb
            simp only [Nb] at hb
            obtain ⟨hb1, hb2, hb3, _⟩ := hb
            simp only [↓ruleA0, ↓ruleA1, ↓ruleA2, ruleB0, ruleB1, ruleB2, ruleB3, ruleL, ↓retK, ncall, Todo_eq, packV, eqTB, litB, litV, fitL, fit, veqL, veq, sbin, sun, nilB, cellsV, oneB, okC, vals, fillV, partsE, Int.reduceLE, Int.reduceLT, Int.reduceToNat, Nat.reduceAdd, Nat.reduceEqDiff, Nat.reduceLT, Nat.reduceLeDiff, Nat.reduceMul, Nat.reduceSub, reduceCtorEq, tbAGb0, Try.results53, g2, g41, gb, gr, hm, hi, h10, h0, hb1, hb2, hb3]
            refine ⟨(seen ++ [p.1], [p.2]), hmu, _, [], List.Sublist.cons_cons _ (List.Sublist.cons _ (List.Sublist.refl _)), List.nil_sublist _, hst, ?_⟩
            simp only [↓ruleA0, ↓ruleA1, ↓ruleA2, ruleB0, ruleB1, ruleB2, ruleB3, ruleL, ↓retK, ncall, Todo_eq, packV, eqTB, litB, litV, fitL, fit, veqL, veq, sbin, sun, nilB, cellsV, oneB, okC, vals, fillV, partsE, Int.reduceLE, Int.reduceLT, Int.reduceToNat, Nat.reduceAdd, Nat.reduceEqDiff, Nat.reduceLT, Nat.reduceLeDiff, Nat.reduceMul, Nat.reduceSub, reduceCtorEq, tbAGb0, Try.results53, g2, g41, gb, gr, hm, hi, h10, h0, hb1, hb2, hb3]
            exact ⟨b, c, ⟨hc, hb2.1, hb3.1⟩, rfl, rfl⟩
      · simp only [↓ruleA0, ↓ruleA1, ↓ruleA2, ruleB0, ruleB1, ruleB2, ruleB3, ruleL, ↓retK, ncall, Todo_eq, packV, eqTB, litB, litV, fitL, fit, veqL, veq, sbin, sun, nilB, cellsV, oneB, okC, vals, fillV, partsE, Int.reduceLE, Int.reduceLT, Int.reduceToNat, Nat.reduceAdd, Nat.reduceEqDiff, Nat.reduceLT, Nat.reduceLeDiff, Nat.reduceMul, Nat.reduceSub, reduceCtorEq, tbAGb0, Try.results53, g2, g41, gb, gr, hm, hi, hb1, hb2]
        refine ⟨fun hl => ?_, fun e he hf => ?_⟩
        · simp only [↓ruleA0, ↓ruleA1, ↓ruleA2, ruleB0, ruleB1, ruleB2, ruleB3, ruleL, ↓retK, ncall, Todo_eq, packV, eqTB, litB, litV, fitL, fit, veqL, veq, sbin, sun, nilB, cellsV, oneB, okC, vals, fillV, partsE, Int.reduceLE, Int.reduceLT, Int.reduceToNat, Nat.reduceAdd, Nat.reduceEqDiff, Nat.reduceLT, Nat.reduceLeDiff, Nat.reduceMul, Nat.reduceSub, reduceCtorEq, tbAGb0, Try.results53, g2, g41, gb, gr, hm, hi, hb1, hb2]
          refine OkF_with [_] [_, _] (List.Perm.refl _) (sortD_box acc hfa _ b c (by omega)) ?_
          rintro v bs rs ⟨rfl, rfl, l', hp, hs, rfl⟩
          rw [leftE_ents] at hl
          have hcons := hg.cons hdn (hp.trans (hgot.done (by simpa [ents] using hl))) hs
          simp only [↓ruleA0, ↓ruleA1, ↓ruleA2, ruleB0, ruleB1, ruleB2, ruleB3, ruleL, ↓retK, ncall, Todo_eq, packV, eqTB, litB, litV, fitL, fit, veqL, veq, sbin, sun, nilB, cellsV, oneB, okC, vals, fillV, partsE, Int.reduceLE, Int.reduceLT, Int.reduceToNat, Nat.reduceAdd, Nat.reduceEqDiff, Nat.reduceLT, Nat.reduceLeDiff, Nat.reduceMul, Nat.reduceSub, reduceCtorEq, tbAGb0, Try.results53, g2, g41, gb, gr, hm, hi]
          have hlen : (consM d).length = acc.length := by rw [← hcons]; exact hp.length_eq
          exact ⟨_, [_], [], Le.refl _, List.Sublist.cons_cons _ (List.nil_sublist _), List.nil_sublist _, rfl, .inr ⟨b, c, by rw [hlen], by rw [hlen]; exact hlc, by rw [hlen, ← hcons]⟩⟩
        · rw [leftE_ents] at he
          obtain ⟨p, hp, rfl⟩ := List.mem_map.1 he
          have hp0 := (List.mem_filter.1 hp).1
          have hst := hgot.step hg.apart hp
          have hmu := leftG_less hg.apart hp
          have hlast : (seen ++ [p.1]).getLast? = some p.1 := by simp
          simp only at hf
          simp only [↓ruleA0, ↓ruleA1, ↓ruleA2, ruleB0, ruleB1, ruleB2, ruleB3, ruleL, ↓retK, ncall, Todo_eq, packV, eqTB, litB, litV, fitL, fit, veqL, veq, sbin, sun, nilB, cellsV, oneB, okC, vals, fillV, partsE, Int.reduceLE, Int.reduceLT, Int.reduceToNat, Nat.reduceAdd, Nat.reduceEqDiff, Nat.reduceLT, Nat.reduceLeDiff, Nat.reduceMul, Nat.reduceSub, reduceCtorEq, tbAGb0, Try.results53, g2, g41, gb, gr, hm, hi, hb1, hb2, hlast, hf]
          refine fun b10 h10 => ?_; replace h10 := newb h10; try simp only [Nb] at h10
          simp only [↓ruleA0, ↓ruleA1, ↓ruleA2, ruleB0, ruleB1, ruleB2, ruleB3, ruleL, ↓retK, ncall, Todo_eq, packV, eqTB, litB, litV, fitL, fit, veqL, veq, sbin, sun, nilB, cellsV, oneB, okC, vals, fillV, partsE, Int.reduceLE, Int.reduceLT, Int.reduceToNat, Nat.reduceAdd, Nat.reduceEqDiff, Nat.reduceLT, Nat.reduceLeDiff, Nat.reduceMul, Nat.reduceSub, reduceCtorEq, tbAGb0, Try.results53, g2, g41, gb, gr, hm, hi, hb1, hb2, hlast, hf, h10]
          by_cases h0 : p.2.n = 0
          · rw [if_neg (by simpa using h0)] at hst
            simp only [↓ruleA0, ↓ruleA1, ↓ruleA2, ruleB0, ruleB1, ruleB2, ruleB3, ruleL, ↓retK, ncall, Todo_eq, packV, eqTB, litB, litV, fitL, fit, veqL, veq, sbin, sun, nilB, cellsV, oneB, okC, vals, fillV, partsE, Int.reduceLE, Int.reduceLT, Int.reduceToNat, Nat.reduceAdd, Nat.reduceEqDiff, Nat.reduceLT, Nat.reduceLeDiff, Nat.reduceMul, Nat.reduceSub, reduceCtorEq, tbAGb0, Try.results53, g2, g41, gb, gr, hm, hi, hb1, hb2, h10, h0]
            refine ⟨(seen ++ [p.1], acc), hmu, _, _, List.Sublist.cons _ (List.Sublist.refl _), List.Sublist.refl _, hst, ?_⟩
            simp only [↓ruleA0, ↓ruleA1, ↓ruleA2, ruleB0, ruleB1, ruleB2, ruleB3, ruleL, ↓retK, ncall, Todo_eq, packV, eqTB, litB, litV, fitL, fit, veqL, veq, sbin, sun, nilB, cellsV, oneB, okC, vals, fillV, partsE, Int.reduceLE, Int.reduceLT, Int.reduceToNat, Nat.reduceAdd, Nat.reduceEqDiff, Nat.reduceLT, Nat.reduceLeDiff, Nat.reduceMul, Nat.reduceSub, reduceCtorEq, tbAGb0, Try.results53, g2, g41, gb, gr, hm, hi, hb1, hb2, h10, h0]
            exact .inr ⟨b, c, ⟨hlc, hb1, hb2⟩, rfl, rfl⟩
          · rw [if_pos h0] at hst
            simp only [↓ruleA0, ↓ruleA1, ↓ruleA2, ruleB0, ruleB1, ruleB2, ruleB3, ruleL, ↓retK, ncall, Todo_eq, packV, eqTB, litB, litV, fitL, fit, veqL, veq, sbin, sun, nilB, cellsV, oneB, okC, vals, fillV, partsE, Int.reduceLE, Int.reduceLT, Int.reduceToNat, Nat.reduceAdd, Nat.reduceEqDiff, Nat.reduceLT, Nat.reduceLeDiff, Nat.reduceMul, Nat.reduceSub, reduceCtorEq, tbAGb0, Try.results53, g2, g41, gb, gr, hm, hi, hb1, hb2, h10, h0]
            refine fun y => Or2.r ?_
            simp only [↓ruleA0, ↓ruleA1, ↓ruleA2, ruleB0, ruleB1, ruleB2, ruleB3, ruleL, ↓retK, ncall, Todo_eq, packV, eqTB, litB, litV, fitL, fit, veqL, veq, sbin, sun, nilB, cellsV, oneB, okC, vals, fillV, partsE, Int.reduceLE, Int.reduceLT, Int.reduceToNat, Nat.reduceAdd, Nat.reduceEqDiff, Nat.reduceLT, Nat.reduceLeDiff, Nat.reduceMul, Nat.reduceSub, reduceCtorEq, tbAGb0, Try.results53, g2, g41, gb, gr, hm, hi, hb1, hb2, h10, h0]
            have h10b : ¬ b10 = b := h10.1.2
            refine ⟨⟨by rw [List.length_append, cellsD_len, anys_len, ← Nat.add_mul]; congr 1; omega, hlc, by omega⟩, fun b' c' hb hc => ?_⟩
            simp only [remB, List.filter_cons, decide_true, Bool.not_true, Bool.false_eq_true, if_false, List.filter_nil, hb1, hb2, h10b, decide_false, Bool.not_false, if_true] at hb ⊢
            replace hb := newb hb
            simp only [Nb] at hb
            obtain ⟨hb3, hb4, hb5, _⟩ := hb
            simp only [↓ruleA0, ↓ruleA1, ↓ruleA2, ruleB0, ruleB1, ruleB2, ruleB3, ruleL, ↓retK, ncall, Todo_eq, packV, eqTB, litB, litV, fitL, fit, veqL, veq, sbin, sun, nilB, cellsV, oneB, okC, vals, fillV, partsE, Int.reduceLE, Int.reduceLT, Int.reduceToNat, Nat.reduceAdd, Nat.reduceEqDiff, Nat.reduceLT, Nat.reduceLeDiff, Nat.reduceMul, Nat.reduceSub, reduceCtorEq, tbAGb0, Try.results53, g2, g41, gb, gr, hm, hi, h10, h0, hb1, hb2, hb3, hb4, hb5]
            refine ⟨(seen ++ [p.1], acc ++ [p.2]), hmu, _, [], List.Sublist.cons_cons _ (List.Sublist.cons _ (List.Sublist.refl _)), List.nil_sublist _, hst, ?_⟩
            simp only [↓ruleA0, ↓ruleA1, ↓ruleA2, ruleB0, ruleB1, ruleB2, ruleB3, ruleL, ↓retK, ncall, Todo_eq, packV, eqTB, litB, litV, fitL, fit, veqL, veq, sbin, sun, nilB, cellsV, oneB, okC, vals, fillV, partsE, Int.reduceLE, Int.reduceLT, Int.reduceToNat, Nat.reduceAdd, Nat.reduceEqDiff, Nat.reduceLT, Nat.reduceLeDiff, Nat.reduceMul, Nat.reduceSub, reduceCtorEq, tbAGb0, Try.results53, g2, g41, gb, gr, hm, hi, h10, h0, hb1, hb2, hb3, hb4, hb5, List.length_append]
            refine .inr ⟨b', c', ⟨hc, hb4.1, hb5.1⟩, rfl, ?_⟩
            rw [List.take_left' (cellsD_len acc), List.map_append, List.flatten_append]
            rfl
end Go.Proofs.Ytopfanlkbepemaa

/- Arrangements: contracts, part g: membership, delta.Purge, delta.At. -/
set_option linter.unusedSimpArgs false
set_option maxRecDepth 100000
namespace Go.Proofs.Ytopfanlkbepemaa
open Go.VL Go.Ar Go.Proofs.Ytopfanlkbepemaa

set_option linter.defProp false in
def tbAGc0 := (And.intro (And.intro (And.intro (And.intro Ty.sz3 (And.intro Ty.by3 Ty.ag3)) (And.intro (And.intro Ty.zr3 Ty.un3) (And.intro Ty.sz4 Ty.by4))) (And.intro (And.intro Ty.ag4 (And.intro Ty.zr4 Ty.un4)) (And.intro (And.intro Ty.sz9 Ty.by9) (And.intro Ty.ag9 Ty.zr9)))) (And.intro (And.intro (And.intro Ty.un9 (And.intro Ty.sz47 Ty.by47)) (And.intro (And.intro Ty.ag47 Ty.zr47) (And.intro Ty.un47 Ty.sz53))) (And.intro (And.intro (And.intro Ty.by53 Ty.ag53) (And.intro Ty.zr53 Ty.fl53_0)) (And.intro (And.intro Ty.pl53_0 Ty.fl53_1) (And.intro Ty.pl53_1 Ty.eq53)))))
theorem index_ok (l : List FID) (x : FID) (hl : l.length ≤ 9223372036854775807) : Ok Try.prog 82 [vFIDs l, .agg (cFID x)] [] fun v bs rs => bs = [] ∧ rs = [] ∧ ∃ n, v = vint n ∧ (0 ≤ n ↔ x ∈ l) := by
  refine Ok.of_ex Ty.mixed Try.func82 rfl (by simp [Try.ntmps82]) (by kernel_rfl) fun F w0 I0 => ?_
  simp only [↓ruleA0, ↓ruleA1, ↓ruleA2, ruleB0, ruleB1, ruleB2, ruleB3, ruleL, ↓retK, ncall, Todo_eq, packV, eqTB, litB, litV, fitL, fit, veqL, veq, sbin, sun, nilB, cellsV, oneB, okC, vals, fillV, partsE, Int.reduceLE, Int.reduceLT, Int.reduceToNat, Nat.reduceAdd, Nat.reduceEqDiff, Nat.reduceLT, Nat.reduceLeDiff, Nat.reduceMul, Nat.reduceSub, reduceCtorEq, tbAGc0, Try.results82]
  refine fun b1 h1 => ?_; replace h1 := newb h1; try simp only [Nb] at h1
  simp only [↓ruleA0, ↓ruleA1, ↓ruleA2, ruleB0, ruleB1, ruleB2, ruleB3, ruleL, ↓retK, ncall, Todo_eq, packV, eqTB, litB, litV, fitL, fit, veqL, veq, sbin, sun, nilB, cellsV, oneB, okC, vals, fillV, partsE, Int.reduceLE, Int.reduceLT, Int.reduceToNat, Nat.reduceAdd, Nat.reduceEqDiff, Nat.reduceLT, Nat.reduceLeDiff, Nat.reduceMul, Nat.reduceSub, reduceCtorEq, tbAGc0, Try.results82]
  refine EX_for Ty.mixed (by kernel_rfl) l.length (fun i S => (∀ j, (h : j < l.length) → j < i → l[j] ≠ x) ∧ S.σ 0 = vFIDs l ∧ S.σ 3 = ptr b1 ∧ S.σ 6 = vFIDs l ∧ S.σ 7 = vint l.length ∧ S.σ 8 = vint i ∧ S.boxes = [(b1, .c (cFID x))]) ⟨0, by simp, ?_⟩ (fun i S hi ⟨ho, g0, g3, g6, g7, g8, gb⟩ => ?_) (fun S ⟨ho, g0, g3, g6, g7, g8, gb⟩ => ?_)
  · simp only [↓ruleA0, ↓ruleA1, ↓ruleA2, ruleB0, ruleB1, ruleB2, ruleB3, ruleL, ↓retK, ncall, Todo_eq, packV, eqTB, litB, litV, fitL, fit, veqL, veq, sbin, sun, nilB, cellsV, oneB, okC, vals, fillV, partsE, Int.reduceLE, Int.reduceLT, Int.reduceToNat, Nat.reduceAdd, Nat.reduceEqDiff, Nat.reduceLT, Nat.reduceLeDiff, Nat.reduceMul, Nat.reduceSub, reduceCtorEq, tbAGc0, Try.results82, List.length_map]
  · simp only [↓ruleA0, ↓ruleA1, ↓ruleA2, ruleB0, ruleB1, ruleB2, ruleB3, ruleL, ↓retK, ncall, Todo_eq, packV, eqTB, litB, litV, fitL, fit, veqL, veq, sbin, sun, nilB, cellsV, oneB, okC, vals, fillV, partsE, Int.reduceLE, Int.reduceLT, Int.reduceToNat, Nat.reduceAdd, Nat.reduceEqDiff, Nat.reduceLT, Nat.reduceLeDiff, Nat.reduceMul, Nat.reduceSub, reduceCtorEq, tbAGc0, Try.results82, g0, g3, g6, g7, g8, gb, Int.ofNat_lt, hi, List.length_map, getD_map]
    refine onCond_splitb (fun hc => ?_) (fun hc => ?_)
    · have he : l[i] = x := by
        generalize l[i] = y at hc
        cases x; cases y; simp at hc; simp_all
      simp only [↓ruleA0, ↓ruleA1, ↓ruleA2, ruleB0, ruleB1, ruleB2, ruleB3, ruleL, ↓retK, ncall, Todo_eq, packV, eqTB, litB, litV, fitL, fit, veqL, veq, sbin, sun, nilB, cellsV, oneB, okC, vals, fillV, partsE, Int.reduceLE, Int.reduceLT, Int.reduceToNat, Nat.reduceAdd, Nat.reduceEqDiff, Nat.reduceLT, Nat.reduceLeDiff, Nat.reduceMul, Nat.reduceSub, reduceCtorEq, tbAGc0, Try.results82]
      refine ⟨_, [], [], Le.refl _, List.nil_sublist _, List.nil_sublist _, rfl, rfl, i, rfl, ?_⟩
      simp [← he]
    · have hne : ¬ l[i] = x := fun e => by rw [e] at hc; simp at hc
      simp only [↓ruleA0, ↓ruleA1, ↓ruleA2, ruleB0, ruleB1, ruleB2, ruleB3, ruleL, ↓retK, ncall, Todo_eq, packV, eqTB, litB, litV, fitL, fit, veqL, veq, sbin, sun, nilB, cellsV, oneB, okC, vals, fillV, partsE, Int.reduceLE, Int.reduceLT, Int.reduceToNat, Nat.reduceAdd, Nat.reduceEqDiff, Nat.reduceLT, Nat.reduceLeDiff, Nat.reduceMul, Nat.reduceSub, reduceCtorEq, tbAGc0, Try.results82, g0, g3, g6, g7, g8, gb, wrap_succ hi hl]
      refine ⟨0, fun j h hj => ?_, rfl⟩
      by_cases e : j = i
      · subst e; exact hne
      · exact ho j h (by omega)
  · simp only [↓ruleA0, ↓ruleA1, ↓ruleA2, ruleB0, ruleB1, ruleB2, ruleB3, ruleL, ↓retK, ncall, Todo_eq, packV, eqTB, litB, litV, fitL, fit, veqL, veq, sbin, sun, nilB, cellsV, oneB, okC, vals, fillV, partsE, Int.reduceLE, Int.reduceLT, Int.reduceToNat, Nat.reduceAdd, Nat.reduceEqDiff, Nat.reduceLT, Nat.reduceLeDiff, Nat.reduceMul, Nat.reduceSub, reduceCtorEq, tbAGc0, Try.results82, g0, g3, g6, g7, g8, gb, Int.ofNat_lt, Nat.lt_irrefl, List.length_map]
    have hno : ¬ x ∈ l := fun hx => by
      obtain ⟨j, hj, e⟩ := List.getElem_of_mem hx
      exact ho j hj hj e
    refine ⟨_, [], [], Le.refl _, List.nil_sublist _, List.nil_sublist _, rfl, rfl, -1, rfl, ?_⟩
    simp [hno]
set_option linter.defProp false in
def tbAGc1 := (And.intro (And.intro (And.intro (And.intro Ty.sz3 (And.intro Ty.by3 Ty.ag3)) (And.intro (And.intro Ty.zr3 Ty.un3) (And.intro Ty.sz4 Ty.by4))) (And.intro (And.intro (And.intro Ty.ag4 Ty.zr4) (And.intro Ty.un4 Ty.sz9)) (And.intro (And.intro Ty.by9 Ty.ag9) (And.intro Ty.zr9 Ty.un9)))) (And.intro (And.intro (And.intro Ty.sz47 (And.intro Ty.by47 Ty.ag47)) (And.intro (And.intro Ty.zr47 Ty.un47) (And.intro Ty.sz53 Ty.by53))) (And.intro (And.intro (And.intro Ty.ag53 Ty.zr53) (And.intro Ty.fl53_0 Ty.pl53_0)) (And.intro (And.intro Ty.fl53_1 Ty.pl53_1) (And.intro Ty.eq53 Ty.cb82)))))
theorem contains_ok (l : List FID) (x : FID) (hl : l.length ≤ 9223372036854775807) : OkP Try.prog 66 [vFIDs l, .agg (cFID x)] (vbool (decide (x ∈ l))) := by
  refine Ok.of_ex Ty.mixed Try.func66 rfl (by simp [Try.ntmps66]) (by kernel_rfl) fun F w0 I0 => ?_
  simp only [↓ruleA0, ↓ruleA1, ↓ruleA2, ruleB0, ruleB1, ruleB2, ruleB3, ruleL, ↓retK, ncall, Todo_eq, packV, eqTB, litB, litV, fitL, fit, veqL, veq, sbin, sun, nilB, cellsV, oneB, okC, vals, fillV, partsE, Int.reduceLE, Int.reduceLT, Int.reduceToNat, Nat.reduceAdd, Nat.reduceEqDiff, Nat.reduceLT, Nat.reduceLeDiff, Nat.reduceMul, Nat.reduceSub, reduceCtorEq, tbAGc1, Try.results66]
  refine fun b1 h1 => ?_; replace h1 := newb h1; try simp only [Nb] at h1
  simp only [↓ruleA0, ↓ruleA1, ↓ruleA2, ruleB0, ruleB1, ruleB2, ruleB3, ruleL, ↓retK, ncall, Todo_eq, packV, eqTB, litB, litV, fitL, fit, veqL, veq, sbin, sun, nilB, cellsV, oneB, okC, vals, fillV, partsE, Int.reduceLE, Int.reduceLT, Int.reduceToNat, Nat.reduceAdd, Nat.reduceEqDiff, Nat.reduceLT, Nat.reduceLeDiff, Nat.reduceMul, Nat.reduceSub, reduceCtorEq, tbAGc1, Try.results66]
  refine OkF_with [] _ (List.Perm.refl _) (index_ok l x hl) ?_
  rintro v bs rs ⟨rfl, rfl, n, rfl, hn⟩
  simp only [↓ruleA0, ↓ruleA1, ↓ruleA2, ruleB0, ruleB1, ruleB2, ruleB3, ruleL, ↓retK, ncall, Todo_eq, packV, eqTB, litB, litV, fitL, fit, veqL, veq, sbin, sun, nilB, cellsV, oneB, okC, vals, fillV, partsE, Int.reduceLE, Int.reduceLT, Int.reduceToNat, Nat.reduceAdd, Nat.reduceEqDiff, Nat.reduceLT, Nat.reduceLeDiff, Nat.reduceMul, Nat.reduceSub, reduceCtorEq, tbAGc1, Try.results66]
  exact ret_done (by rw [decide_eq_decide.2 hn])

def purgeM (d : List Dlt) (ids : List FID) : List Dlt := d.filter fun x => !decide (x.row.id ∈ ids)
set_option linter.defProp false in
def tbAGc2 := (And.intro (And.intro (And.intro (And.intro (And.intro (And.intro Ty.sz3 Ty.by3) (And.intro Ty.ag3 Ty.zr3)) (And.intro (And.intro Ty.un3 Ty.sz4) (And.intro Ty.by4 (And.intro Ty.ag4 Ty.zr4)))) (And.intro (And.intro (And.intro Ty.un4 Ty.sz9) (And.intro Ty.by9 (And.intro Ty.ag9 Ty.zr9))) (And.intro (And.intro Ty.un9 Ty.sz41) (And.intro Ty.by41 (And.intro Ty.ag41 Ty.zr41))))) (And.intro (And.intro (And.intro (And.intro Ty.un41 Ty.sz47) (And.intro Ty.by47 (And.intro Ty.ag47 Ty.zr47))) (And.intro (And.intro Ty.un47 Ty.sz53) (And.intro Ty.by53 (And.intro Ty.ag53 Ty.zr53)))) (And.intro (And.intro (And.intro Ty.fl53_0 Ty.pl53_0) (And.intro Ty.fl53_1 (And.intro Ty.pl53_1 Ty.sz54))) (And.intro (And.intro Ty.by54 Ty.ag54) (And.intro Ty.zr54 (And.intro Ty.un54 Ty.sz56)))))) (And.intro (And.intro (And.intro (And.intro (And.intro Ty.by56 Ty.ag56) (And.intro Ty.zr56 (And.intro Ty.fl56_0 Ty.pl56_0))) (And.intro (And.intro Ty.fl56_1 Ty.pl56_1) (And.intro Ty.fl56_2 (And.intro Ty.pl56_2 Ty.fl56_3)))) (And.intro (And.intro (And.intro Ty.pl56_3 Ty.fl56_4) (And.intro Ty.pl56_4 (And.intro Ty.fl56_5 Ty.pl56_5))) (And.intro (And.intro Ty.fl56_6 Ty.pl56_6) (And.intro Ty.sz61 (And.intro Ty.by61 Ty.ag61))))) (And.intro (And.intro (And.intro (And.intro Ty.zr61 Ty.fl61_0) (And.intro Ty.pl61_0 (And.intro Ty.fl61_1 Ty.pl61_1))) (And.intro (And.intro Ty.fl61_2 Ty.pl61_2) (And.intro Ty.sz109 (And.intro Ty.by109 Ty.ag109)))) (And.intro (And.intro (And.intro Ty.zr109 Ty.fl109_0) (And.intro Ty.pl109_0 (And.intro Ty.fl109_1 Ty.pl109_1))) (And.intro (And.intro Ty.fl109_2 Ty.pl109_2) (And.intro Ty.eq53 (And.intro Ty.eq109 Ty.cb66)))))))
theorem purge_ok (d : List Dlt) (ids : List FID) (hd : d.length ≤ big) (hids : ids.length ≤ 9223372036854775807) : OkP Try.prog 45 [vDlts d, vFIDs ids] (vDlts (purgeM d ids)) := by
  unfold big at hd
  refine OkRow.list (e := 61) ?_
  refine Ok.of_ex Ty.mixed Try.func45 rfl (by simp [Try.ntmps45]) (by kernel_rfl) fun F w0 I0 => ?_
  simp only [↓ruleA0, ↓ruleA1, ↓ruleA2, ruleB0, ruleB1, ruleB2, ruleB3, ruleL, ↓retK, ncall, Todo_eq, packV, eqTB, litB, litV, fitL, fit, veqL, veq, sbin, sun, nilB, cellsV, oneB, okC, vals, fillV, partsE, Int.reduceLE, Int.reduceLT, Int.reduceToNat, Nat.reduceAdd, Nat.reduceEqDiff, Nat.reduceLT, Nat.reduceLeDiff, Nat.reduceMul, Nat.reduceSub, reduceCtorEq, tbAGc2, Try.results45]
  refine AWP.nilRow 4 10 61 (by simp only [↓ruleA0, ↓ruleA1, ↓ruleA2, ruleB0, ruleB1, ruleB2, ruleB3, ruleL, ↓retK, ncall, Todo_eq, packV, eqTB, litB, litV, fitL, fit, veqL, veq, sbin, sun, nilB, cellsV, oneB, okC, vals, fillV, partsE, Int.reduceLE, Int.reduceLT, Int.reduceToNat, Nat.reduceAdd, Nat.reduceEqDiff, Nat.reduceLT, Nat.reduceLeDiff, Nat.reduceMul, Nat.reduceSub, reduceCtorEq, tbAGc2, Try.results45]) (by decide) ?_
  refine EX_forR Ty.mixed (by kernel_rfl) d.length (fun i S => ∃ y, S.σ 4 = .list (some y) 10 ((purgeM (d.take i) ids).map cDlt) ∧ S.rows = [⟨y, 10, 61⟩] ∧ S.σ 1 = vFIDs ids ∧ S.σ 7 = vDlts d ∧ S.σ 8 = vint d.length ∧ S.σ 9 = vint i ∧ S.boxes = []) ⟨0, 1, nilv, ?_⟩ (fun i S hi ⟨y, g4, gr, g1, g7, g8, g9, gb⟩ => ?_) (fun S ⟨y, g4, gr, g1, g7, g8, g9, gb⟩ => ?_)
  · simp only [↓ruleA0, ↓ruleA1, ↓ruleA2, ruleB0, ruleB1, ruleB2, ruleB3, ruleL, ↓retK, ncall, Todo_eq, packV, eqTB, litB, litV, fitL, fit, veqL, veq, sbin, sun, nilB, cellsV, oneB, okC, vals, fillV, partsE, Int.reduceLE, Int.reduceLT, Int.reduceToNat, Nat.reduceAdd, Nat.reduceEqDiff, Nat.reduceLT, Nat.reduceLeDiff, Nat.reduceMul, Nat.reduceSub, reduceCtorEq, tbAGc2, Try.results45, List.length_map]
    rfl
  · simp only [↓ruleA0, ↓ruleA1, ↓ruleA2, ruleB0, ruleB1, ruleB2, ruleB3, ruleL, ↓retK, ncall, Todo_eq, packV, eqTB, litB, litV, fitL, fit, veqL, veq, sbin, sun, nilB, cellsV, oneB, okC, vals, fillV, partsE, Int.reduceLE, Int.reduceLT, Int.reduceToNat, Nat.reduceAdd, Nat.reduceEqDiff, Nat.reduceLT, Nat.reduceLeDiff, Nat.reduceMul, Nat.reduceSub, reduceCtorEq, tbAGc2, Try.results45, g4, gr, g1, g7, g8, g9, gb, Int.ofNat_lt, hi, List.length_map, getD_map]
    have htk : purgeM (d.take (i + 1)) ids = purgeM (d.take i) ids ++ (if d[i].row.id ∈ ids then [] else [d[i]]) := by
      unfold purgeM
      rw [List.take_succ_eq_append_getElem hi, List.filter_append]
      by_cases hx : d[i].row.id ∈ ids <;> simp [hx]
    have hlen : (purgeM (d.take i) ids).length ≤ i := by
      have := List.length_filter_le (fun x => !decide (x.row.id ∈ ids)) (d.take i)
      simp only [List.length_take] at this
      unfold purgeM; omega
    refine fun b6 h6 => ?_; replace h6 := newb h6; try simp only [Nb] at h6
    simp only [↓ruleA0, ↓ruleA1, ↓ruleA2, ruleB0, ruleB1, ruleB2, ruleB3, ruleL, ↓retK, ncall, Todo_eq, packV, eqTB, litB, litV, fitL, fit, veqL, veq, sbin, sun, nilB, cellsV, oneB, okC, vals, fillV, partsE, Int.reduceLE, Int.reduceLT, Int.reduceToNat, Nat.reduceAdd, Nat.reduceEqDiff, Nat.reduceLT, Nat.reduceLeDiff, Nat.reduceMul, Nat.reduceSub, reduceCtorEq, tbAGc2, Try.results45, g4, gr, g1, g7, g8, g9, gb]
    refine OkF_of _ (contains_ok ids d[i].row.id hids) ?_
    by_cases hx : d[i].row.id ∈ ids
    · simp only [↓ruleA0, ↓ruleA1, ↓ruleA2, ruleB0, ruleB1, ruleB2, ruleB3, ruleL, ↓retK, ncall, Todo_eq, packV, eqTB, litB, litV, fitL, fit, veqL, veq, sbin, sun, nilB, cellsV, oneB, okC, vals, fillV, partsE, Int.reduceLE, Int.reduceLT, Int.reduceToNat, Nat.reduceAdd, Nat.reduceEqDiff, Nat.reduceLT, Nat.reduceLeDiff, Nat.reduceMul, Nat.reduceSub, reduceCtorEq, tbAGc2, Try.results45, g4, gr, g1, g7, g8, g9, gb, hx, wrap_succ hi (Nat.le_trans hd (by decide))]
      refine ⟨1, 1, y, ?_, rfl, rfl⟩
      rw [htk, if_pos hx, List.append_nil]
    · simp only [↓ruleA0, ↓ruleA1, ↓ruleA2, ruleB0, ruleB1, ruleB2, ruleB3, ruleL, ↓retK, ncall, Todo_eq, packV, eqTB, litB, litV, fitL, fit, veqL, veq, sbin, sun, nilB, cellsV, oneB, okC, vals, fillV, partsE, Int.reduceLE, Int.reduceLT, Int.reduceToNat, Nat.reduceAdd, Nat.reduceEqDiff, Nat.reduceLT, Nat.reduceLeDiff, Nat.reduceMul, Nat.reduceSub, reduceCtorEq, tbAGc2, Try.results45, g4, gr, g1, g7, g8, g9, gb, hx]
      refine fun y2 => takeRF_2 ?_
      simp only [↓ruleA0, ↓ruleA1, ↓ruleA2, ruleB0, ruleB1, ruleB2, ruleB3, ruleL, ↓retK, ncall, Todo_eq, packV, eqTB, litB, litV, fitL, fit, veqL, veq, sbin, sun, nilB, cellsV, oneB, okC, vals, fillV, partsE, Int.reduceLE, Int.reduceLT, Int.reduceToNat, Nat.reduceAdd, Nat.reduceEqDiff, Nat.reduceLT, Nat.reduceLeDiff, Nat.reduceMul, Nat.reduceSub, reduceCtorEq, tbAGc2, Try.results45, g4, gr, g1, g7, g8, g9, gb, hx, wrap_succ hi (Nat.le_trans hd (by decide)), List.length_map]
      refine ⟨(by first | omega | (simp; omega)), fun y3 => ⟨1, 1, y3, ?_, rfl, rfl⟩⟩
      rw [htk, if_neg hx, List.map_append]
      rfl
  · simp only [↓ruleA0, ↓ruleA1, ↓ruleA2, ruleB0, ruleB1, ruleB2, ruleB3, ruleL, ↓retK, ncall, Todo_eq, packV, eqTB, litB, litV, fitL, fit, veqL, veq, sbin, sun, nilB, cellsV, oneB, okC, vals, fillV, partsE, Int.reduceLE, Int.reduceLT, Int.reduceToNat, Nat.reduceAdd, Nat.reduceEqDiff, Nat.reduceLT, Nat.reduceLeDiff, Nat.reduceMul, Nat.reduceSub, reduceCtorEq, tbAGc2, Try.results45, g4, gr, g1, g7, g8, g9, gb, Int.ofNat_lt, Nat.lt_irrefl, List.length_map]
    rw [List.take_of_length_le (Nat.le_refl _)]
    exact ret_row

def earlyM (d : List Dlt) (t : Int) : List Dlt := (d.filter fun x => decide (x.tick ≤ t)).map fun x => { x with tick := 0 }
def rowsM (d : List Dlt) : List Rw := (d.filter fun x => decide (0 < x.n)).map (·.row)
theorem early_fit {d : List Dlt} (hd : fitDs d) (t : Int) : fitDs (earlyM d t) := by
  refine ⟨?_, fun x hx => ?_⟩
  · have := List.length_filter_le (fun x => decide (x.tick ≤ t)) d
    unfold earlyM; rw [List.length_map]
    exact Nat.le_trans this hd.1
  · obtain ⟨y, hy, rfl⟩ := List.mem_map.1 hx
    exact hd.2 y (List.mem_filter.1 hy).1
set_option linter.defProp false in
def tbAGc3 := (And.intro (And.intro (And.intro (And.intro (And.intro (And.intro Ty.sz3 Ty.by3) (And.intro Ty.ag3 Ty.zr3)) (And.intro (And.intro Ty.un3 Ty.sz4) (And.intro Ty.by4 (And.intro Ty.ag4 Ty.zr4)))) (And.intro (And.intro (And.intro Ty.un4 Ty.sz9) (And.intro Ty.by9 (And.intro Ty.ag9 Ty.zr9))) (And.intro (And.intro Ty.un9 Ty.sz32) (And.intro Ty.by32 (And.intro Ty.ag32 Ty.zr32))))) (And.intro (And.intro (And.intro (And.intro Ty.un32 Ty.sz41) (And.intro Ty.by41 (And.intro Ty.ag41 Ty.zr41))) (And.intro (And.intro Ty.un41 Ty.sz53) (And.intro Ty.by53 (And.intro Ty.ag53 Ty.zr53)))) (And.intro (And.intro (And.intro Ty.fl53_0 Ty.pl53_0) (And.intro Ty.fl53_1 (And.intro Ty.pl53_1 Ty.sz54))) (And.intro (And.intro Ty.by54 Ty.ag54) (And.intro Ty.zr54 (And.intro Ty.un54 Ty.sz56)))))) (And.intro (And.intro (And.intro (And.intro (And.intro Ty.by56 Ty.ag56) (And.intro Ty.zr56 (And.intro Ty.fl56_0 Ty.pl56_0))) (And.intro (And.intro Ty.fl56_1 Ty.pl56_1) (And.intro Ty.fl56_2 (And.intro Ty.pl56_2 Ty.fl56_3)))) (And.intro (And.intro (And.intro Ty.pl56_3 Ty.fl56_4) (And.intro Ty.pl56_4 (And.intro Ty.fl56_5 Ty.pl56_5))) (And.intro (And.intro Ty.fl56_6 Ty.pl56_6) (And.intro Ty.sz61 (And.intro Ty.by61 Ty.ag61))))) (And.intro (And.intro (And.intro (And.intro Ty.zr61 Ty.fl61_0) (And.intro Ty.pl61_0 (And.intro Ty.fl61_1 Ty.pl61_1))) (And.intro (And.intro Ty.fl61_2 Ty.pl61_2) (And.intro Ty.sz109 (And.intro Ty.by109 Ty.ag109)))) (And.intro (And.intro (And.intro Ty.zr109 Ty.fl109_0) (And.intro Ty.pl109_0 (And.intro Ty.fl109_1 Ty.pl109_1))) (And.intro (And.intro Ty.fl109_2 Ty.pl109_2) (And.intro Ty.eq53 (And.intro Ty.eq109 Ty.cb53)))))))
theorem at_ok (d : List Dlt) (t : Int) (hd : fitDs d) : OkRow Try.prog 38 [vDlts d, vint t] 8 56 ((rowsM (consM (earlyM d t))).map cRow) := by
  have hd1 := hd.1
  unfold big at hd1
  refine Ok.of_ex Ty.mixed Try.func38 rfl (by simp [Try.ntmps38]) (by kernel_rfl) fun F w0 I0 => ?_
  simp only [↓ruleA0, ↓ruleA1, ↓ruleA2, ruleB0, ruleB1, ruleB2, ruleB3, ruleL, ↓retK, ncall, Todo_eq, packV, eqTB, litB, litV, fitL, fit, veqL, veq, sbin, sun, nilB, cellsV, oneB, okC, vals, fillV, partsE, Int.reduceLE, Int.reduceLT, Int.reduceToNat, Nat.reduceAdd, Nat.reduceEqDiff, Nat.reduceLT, Nat.reduceLeDiff, Nat.reduceMul, Nat.reduceSub, reduceCtorEq, tbAGc3, Try.results38]
  refine AWP.nilRow 5 10 61 (by simp only [↓ruleA0, ↓ruleA1, ↓ruleA2, ruleB0, ruleB1, ruleB2, ruleB3, ruleL, ↓retK, ncall, Todo_eq, packV, eqTB, litB, litV, fitL, fit, veqL, veq, sbin, sun, nilB, cellsV, oneB, okC, vals, fillV, partsE, Int.reduceLE, Int.reduceLT, Int.reduceToNat, Nat.reduceAdd, Nat.reduceEqDiff, Nat.reduceLT, Nat.reduceLeDiff, Nat.reduceMul, Nat.reduceSub, reduceCtorEq, tbAGc3, Try.results38]) (by decide) ?_
  refine EX_forR Ty.mixed (by kernel_rfl) d.length (fun i S => ∃ y, S.σ 5 = .list (some y) 10 ((earlyM (d.take i) t).map cDlt) ∧ S.rows = [⟨y, 10, 61⟩] ∧ S.σ 1 = vint t ∧ S.σ 4 = nilS ∧ S.σ 10 = vDlts d ∧ S.σ 11 = vint d.length ∧ S.σ 12 = vint i ∧ S.boxes = []) ⟨0, 1, nilv, ?_⟩ (fun i S hi ⟨y, g5, gr, g1, g4, g10, g11, g12, gb⟩ => ?_) (fun S ⟨y, g5, gr, g1, g4, g10, g11, g12, gb⟩ => ?_)
  · simp only [↓ruleA0, ↓ruleA1, ↓ruleA2, ruleB0, ruleB1, ruleB2, ruleB3, ruleL, ↓retK, ncall, Todo_eq, packV, eqTB, litB, litV, fitL, fit, veqL, veq, sbin, sun, nilB, cellsV, oneB, okC, vals, fillV, partsE, Int.reduceLE, Int.reduceLT, Int.reduceToNat, Nat.reduceAdd, Nat.reduceEqDiff, Nat.reduceLT, Nat.reduceLeDiff, Nat.reduceMul, Nat.reduceSub, reduceCtorEq, tbAGc3, Try.results38, List.length_map]
    rfl
  · have htk : earlyM (d.take (i + 1)) t = earlyM (d.take i) t ++ (if d[i].tick ≤ t then [{ d[i] with tick := 0 }] else []) := by
      unfold earlyM
      rw [List.take_succ_eq_append_getElem hi, List.filter_append, List.map_append]
      by_cases hx : d[i].tick ≤ t <;> simp [hx]
    have hlen : (earlyM (d.take i) t).length ≤ i := by
      have := List.length_filter_le (fun x => decide (x.tick ≤ t)) (d.take i)
      simp only [List.length_take] at this
      unfold earlyM; rw [List.length_map]; omega
    simp only [↓ruleA0, ↓ruleA1, ↓ruleA2, ruleB0, ruleB1, ruleB2, ruleB3, ruleL, ↓retK, ncall, Todo_eq, packV, eqTB, litB, litV, fitL, fit, veqL, veq, sbin, sun, nilB, cellsV, oneB, okC, vals, fillV, partsE, Int.reduceLE, Int.reduceLT, Int.reduceToNat, Nat.reduceAdd, Nat.reduceEqDiff, Nat.reduceLT, Nat.reduceLeDiff, Nat.reduceMul, Nat.reduceSub, reduceCtorEq, tbAGc3, Try.results38, g5, gr, g1, g4, g10, g11, g12, gb, Int.ofNat_lt, hi, List.length_map, getD_map]
    refine fun b7 h7 => ?_; replace h7 := newb h7; try simp only [Nb] at h7
    by_cases hx : d[i].tick ≤ t
    · simp only [↓ruleA0, ↓ruleA1, ↓ruleA2, ruleB0, ruleB1, ruleB2, ruleB3, ruleL, ↓retK, ncall, Todo_eq, packV, eqTB, litB, litV, fitL, fit, veqL, veq, sbin, sun, nilB, cellsV, oneB, okC, vals, fillV, partsE, Int.reduceLE, Int.reduceLT, Int.reduceToNat, Nat.reduceAdd, Nat.reduceEqDiff, Nat.reduceLT, Nat.reduceLeDiff, Nat.reduceMul, Nat.reduceSub, reduceCtorEq, tbAGc3, Try.results38, g5, gr, g1, g4, g10, g11, g12, gb, hx]
      refine fun y2 => takeRF_2 ?_
      simp only [↓ruleA0, ↓ruleA1, ↓ruleA2, ruleB0, ruleB1, ruleB2, ruleB3, ruleL, ↓retK, ncall, Todo_eq, packV, eqTB, litB, litV, fitL, fit, veqL, veq, sbin, sun, nilB, cellsV, oneB, okC, vals, fillV, partsE, Int.reduceLE, Int.reduceLT, Int.reduceToNat, Nat.reduceAdd, Nat.reduceEqDiff, Nat.reduceLT, Nat.reduceLeDiff, Nat.reduceMul, Nat.reduceSub, reduceCtorEq, tbAGc3, Try.results38, g5, gr, g1, g4, g10, g11, g12, gb, wrap_succ hi (Nat.le_trans hd1 (by decide)), List.length_map]
      refine ⟨(by first | omega | (simp; omega)), fun y3 => ⟨1, 1, y3, ?_, rfl, rfl⟩⟩
      rw [htk, if_pos hx, List.map_append]
      rfl
    · simp only [↓ruleA0, ↓ruleA1, ↓ruleA2, ruleB0, ruleB1, ruleB2, ruleB3, ruleL, ↓retK, ncall, Todo_eq, packV, eqTB, litB, litV, fitL, fit, veqL, veq, sbin, sun, nilB, cellsV, oneB, okC, vals, fillV, partsE, Int.reduceLE, Int.reduceLT, Int.reduceToNat, Nat.reduceAdd, Nat.reduceEqDiff, Nat.reduceLT, Nat.reduceLeDiff, Nat.reduceMul, Nat.reduceSub, reduceCtorEq, tbAGc3, Try.results38, g5, gr, g1, g4, g10, g11, g12, gb, hx, wrap_succ hi (Nat.le_trans hd1 (by decide))]
      refine ⟨1, 1, y, ?_, rfl, rfl⟩
      rw [htk, if_neg hx, List.append_nil]
  · simp only [↓ruleA0, ↓ruleA1, ↓ruleA2, ruleB0, ruleB1, ruleB2, ruleB3, ruleL, ↓retK, ncall, Todo_eq, packV, eqTB, litB, litV, fitL, fit, veqL, veq, sbin, sun, nilB, cellsV, oneB, okC, vals, fillV, partsE, Int.reduceLE, Int.reduceLT, Int.reduceToNat, Nat.reduceAdd, Nat.reduceEqDiff, Nat.reduceLT, Nat.reduceLeDiff, Nat.reduceMul, Nat.reduceSub, reduceCtorEq, tbAGc3, Try.results38, g5, gr, g1, g4, g10, g11, g12, gb, Int.ofNat_lt, Nat.lt_irrefl, List.length_map]
    rw [List.take_of_length_le (Nat.le_refl _)]
    have hfit := early_fit hd t
    generalize hc : consM (earlyM d t) = c
    refine OkF_le (.cons (Le.list _ _ _) .nil) _ (cons_ok (earlyM d t) hfit) ?_
    have hcl : c.length ≤ 4194304 := by rw [← hc]; exact Nat.le_trans (consM_len _) hfit.1
    simp only [↓ruleA0, ↓ruleA1, ↓ruleA2, ruleB0, ruleB1, ruleB2, ruleB3, ruleL, ↓retK, ncall, Todo_eq, packV, eqTB, litB, litV, fitL, fit, veqL, veq, sbin, sun, nilB, cellsV, oneB, okC, vals, fillV, partsE, Int.reduceLE, Int.reduceLT, Int.reduceToNat, Nat.reduceAdd, Nat.reduceEqDiff, Nat.reduceLT, Nat.reduceLeDiff, Nat.reduceMul, Nat.reduceSub, reduceCtorEq, tbAGc3, Try.results38, g4, hc]
    refine AWP.nilRow 4 8 56 (by simp only [↓ruleA0, ↓ruleA1, ↓ruleA2, ruleB0, ruleB1, ruleB2, ruleB3, ruleL, ↓retK, ncall, Todo_eq, packV, eqTB, litB, litV, fitL, fit, veqL, veq, sbin, sun, nilB, cellsV, oneB, okC, vals, fillV, partsE, Int.reduceLE, Int.reduceLT, Int.reduceToNat, Nat.reduceAdd, Nat.reduceEqDiff, Nat.reduceLT, Nat.reduceLeDiff, Nat.reduceMul, Nat.reduceSub, reduceCtorEq, tbAGc3, Try.results38, g4]) (by decide) ?_
    refine EX_forR Ty.mixed (by kernel_rfl) c.length (fun i S => ∃ y, S.σ 4 = .list (some y) 8 ((rowsM (c.take i)).map cRow) ∧ S.rows = [⟨y, 8, 56⟩] ∧ S.σ 27 = vDlts c ∧ S.σ 28 = vint c.length ∧ S.σ 29 = vint i ∧ S.boxes = []) ⟨0, 1, nilv, ?_⟩ (fun i S hi ⟨y, g4, gr, g27, g28, g29, gb⟩ => ?_) (fun S ⟨y, g4, gr, g27, g28, g29, gb⟩ => ?_)
    · simp only [↓ruleA0, ↓ruleA1, ↓ruleA2, ruleB0, ruleB1, ruleB2, ruleB3, ruleL, ↓retK, ncall, Todo_eq, packV, eqTB, litB, litV, fitL, fit, veqL, veq, sbin, sun, nilB, cellsV, oneB, okC, vals, fillV, partsE, Int.reduceLE, Int.reduceLT, Int.reduceToNat, Nat.reduceAdd, Nat.reduceEqDiff, Nat.reduceLT, Nat.reduceLeDiff, Nat.reduceMul, Nat.reduceSub, reduceCtorEq, tbAGc3, Try.results38, gr, gb, hc, List.length_map]
      rfl
    · have htk : rowsM (c.take (i + 1)) = rowsM (c.take i) ++ (if 0 < c[i].n then [c[i].row] else []) := by
        unfold rowsM
        rw [List.take_succ_eq_append_getElem hi, List.filter_append, List.map_append]
        by_cases hx : 0 < c[i].n <;> simp [hx]
      have hlen : (rowsM (c.take i)).length ≤ i := by
        have := List.length_filter_le (fun x => decide (0 < x.n)) (c.take i)
        simp only [List.length_take] at this
        unfold rowsM; rw [List.length_map]; omega
      simp only [↓ruleA0, ↓ruleA1, ↓ruleA2, ruleB0, ruleB1, ruleB2, ruleB3, ruleL, ↓retK, ncall, Todo_eq, packV, eqTB, litB, litV, fitL, fit, veqL, veq, sbin, sun, nilB, cellsV, oneB, okC, vals, fillV, partsE, Int.reduceLE, Int.reduceLT, Int.reduceToNat, Nat.reduceAdd, Nat.reduceEqDiff, Nat.reduceLT, Nat.reduceLeDiff, Nat.reduceMul, Nat.reduceSub, reduceCtorEq, tbAGc3, Try.results38, g4, gr, g27, g28, g29, gb, Int.ofNat_lt, hi, List.length_map, getD_map]
      refine fun b9 h9 => ?_; replace h9 := newb h9; try simp only [Nb] at h9
      by_cases hx : 0 < c[i].n
      · simp only [↓ruleA0, ↓ruleA1, ↓ruleA2, ruleB0, ruleB1, ruleB2, ruleB3, ruleL, ↓retK, ncall, Todo_eq, packV, eqTB, litB, litV, fitL, fit, veqL, veq, sbin, sun, nilB, cellsV, oneB, okC, vals, fillV, partsE, Int.reduceLE, Int.reduceLT, Int.reduceToNat, Nat.reduceAdd, Nat.reduceEqDiff, Nat.reduceLT, Nat.reduceLeDiff, Nat.reduceMul, Nat.reduceSub, reduceCtorEq, tbAGc3, Try.results38, g4, gr, g27, g28, g29, gb, hx]
        refine fun y2 => takeRF_2 ?_
        simp only [↓ruleA0, ↓ruleA1, ↓ruleA2, ruleB0, ruleB1, ruleB2, ruleB3, ruleL, ↓retK, ncall, Todo_eq, packV, eqTB, litB, litV, fitL, fit, veqL, veq, sbin, sun, nilB, cellsV, oneB, okC, vals, fillV, partsE, Int.reduceLE, Int.reduceLT, Int.reduceToNat, Nat.reduceAdd, Nat.reduceEqDiff, Nat.reduceLT, Nat.reduceLeDiff, Nat.reduceMul, Nat.reduceSub, reduceCtorEq, tbAGc3, Try.results38, g4, gr, g27, g28, g29, gb, wrap_succ hi (Nat.le_trans hcl (by decide)), List.length_map]
        refine ⟨(by first | omega | (simp; omega)), fun y3 => ⟨1, 1, y3, ?_, rfl, rfl⟩⟩
        rw [htk, if_pos hx, List.map_append]
        rfl
      · simp only [↓ruleA0, ↓ruleA1, ↓ruleA2, ruleB0, ruleB1, ruleB2, ruleB3, ruleL, ↓retK, ncall, Todo_eq, packV, eqTB, litB, litV, fitL, fit, veqL, veq, sbin, sun, nilB, cellsV, oneB, okC, vals, fillV, partsE, Int.reduceLE, Int.reduceLT, Int.reduceToNat, Nat.reduceAdd, Nat.reduceEqDiff, Nat.reduceLT, Nat.reduceLeDiff, Nat.reduceMul, Nat.reduceSub, reduceCtorEq, tbAGc3, Try.results38, g4, gr, g27, g28, g29, gb, hx, wrap_succ hi (Nat.le_trans hcl (by decide))]
        refine ⟨1, 1, y, ?_, rfl, rfl⟩
        rw [htk, if_neg hx, List.append_nil]
    · simp only [↓ruleA0, ↓ruleA1, ↓ruleA2, ruleB0, ruleB1, ruleB2, ruleB3, ruleL, ↓retK, ncall, Todo_eq, packV, eqTB, litB, litV, fitL, fit, veqL, veq, sbin, sun, nilB, cellsV, oneB, okC, vals, fillV, partsE, Int.reduceLE, Int.reduceLT, Int.reduceToNat, Nat.reduceAdd, Nat.reduceEqDiff, Nat.reduceLT, Nat.reduceLeDiff, Nat.reduceMul, Nat.reduceSub, reduceCtorEq, tbAGc3, Try.results38, g4, gr, g27, g28, g29, gb, Int.ofNat_lt, Nat.lt_irrefl, List.length_map]
      rw [List.take_of_length_le (Nat.le_refl _)]
      exact ret_row
end Go.Proofs.Ytopfanlkbepemaa

/- Arrangements: contracts, part h: what comes too late; every. -/
set_option linter.unusedSimpArgs false
set_option maxRecDepth 100000
namespace Go.Proofs.Ytopfanlkbepemaa
open Go.VL Go.Ar Go.Proofs.Ytopfanlkbepemaa
-- @call 41

set_option linter.defProp false in
def tbAGd0 := (And.intro (And.intro (And.intro (And.intro (And.intro (And.intro Ty.sz3 Ty.by3) (And.intro Ty.ag3 (And.intro Ty.zr3 Ty.un3))) (And.intro (And.intro Ty.sz4 (And.intro Ty.by4 Ty.ag4)) (And.intro Ty.zr4 (And.intro Ty.un4 Ty.sz9)))) (And.intro (And.intro (And.intro Ty.by9 (And.intro Ty.ag9 Ty.zr9)) (And.intro Ty.un9 (And.intro Ty.sz22 Ty.by22))) (And.intro (And.intro Ty.ag22 (And.intro Ty.zr22 Ty.un22)) (And.intro Ty.sz24 (And.intro Ty.by24 Ty.ag24))))) (And.intro (And.intro (And.intro (And.intro Ty.zr24 (And.intro Ty.fl24_0 Ty.pl24_0)) (And.intro Ty.fl24_1 (And.intro Ty.pl24_1 Ty.sz41))) (And.intro (And.intro Ty.by41 (And.intro Ty.ag41 Ty.zr41)) (And.intro Ty.un41 (And.intro Ty.sz53 Ty.by53)))) (And.intro (And.intro (And.intro Ty.ag53 (And.intro Ty.zr53 Ty.fl53_0)) (And.intro Ty.pl53_0 (And.intro Ty.fl53_1 Ty.pl53_1))) (And.intro (And.intro Ty.sz54 (And.intro Ty.by54 Ty.ag54)) (And.intro Ty.zr54 (And.intro Ty.un54 Ty.sz56)))))) (And.intro (And.intro (And.intro (And.intro (And.intro Ty.by56 (And.intro Ty.ag56 Ty.zr56)) (And.intro Ty.fl56_0 (And.intro Ty.pl56_0 Ty.fl56_1))) (And.intro (And.intro Ty.pl56_1 (And.intro Ty.fl56_2 Ty.pl56_2)) (And.intro Ty.fl56_3 (And.intro Ty.pl56_3 Ty.fl56_4)))) (And.intro (And.intro (And.intro Ty.pl56_4 (And.intro Ty.fl56_5 Ty.pl56_5)) (And.intro Ty.fl56_6 (And.intro Ty.pl56_6 Ty.sz61))) (And.intro (And.intro Ty.by61 (And.intro Ty.ag61 Ty.zr61)) (And.intro Ty.fl61_0 (And.intro Ty.pl61_0 Ty.fl61_1))))) (And.intro (And.intro (And.intro (And.intro Ty.pl61_1 (And.intro Ty.fl61_2 Ty.pl61_2)) (And.intro Ty.sz65 (And.intro Ty.by65 Ty.ag65))) (And.intro (And.intro Ty.zr65 (And.intro Ty.fl65_0 Ty.pl65_0)) (And.intro Ty.fl65_1 (And.intro Ty.pl65_1 Ty.sz109)))) (And.intro (And.intro (And.intro Ty.by109 (And.intro Ty.ag109 Ty.zr109)) (And.intro Ty.fl109_0 (And.intro Ty.pl109_0 Ty.fl109_1))) (And.intro (And.intro Ty.pl109_1 (And.intro Ty.fl109_2 Ty.pl109_2)) (And.intro Ty.eq53 (And.intro Ty.eq109 Ty.cb41)))))))
theorem late_ok (x : Dlt) (a : Arr) (b : Nat) : Ok Try.prog 41 [.agg (cDlt x), ptr b] [(b, .c (cArr a))] fun v bs rs => v = vbool (decide (x.tick < a.since)) ∧ bs = [(b, .c (cArr a))] ∧ rs = [] := by
  refine Ok.of_ex Ty.mixed Try.func41 rfl (by simp [Try.ntmps41]) (by kernel_rfl) fun F w0 I0 => ?_
  simp only [↓ruleA0, ↓ruleA1, ↓ruleA2, ruleB0, ruleB1, ruleB2, ruleB3, ruleL, ↓retK, ncall, Todo_eq, packV, eqTB, litB, litV, fitL, fit, veqL, veq, sbin, sun, nilB, cellsV, oneB, okC, vals, fillV, partsE, Int.reduceLE, Int.reduceLT, Int.reduceToNat, Nat.reduceAdd, Nat.reduceEqDiff, Nat.reduceLT, Nat.reduceLeDiff, Nat.reduceMul, Nat.reduceSub, reduceCtorEq, tbAGd0, Try.results41]
  refine fun b2 h2 => ?_; replace h2 := newb h2; try simp only [Nb] at h2
  simp only [↓ruleA0, ↓ruleA1, ↓ruleA2, ruleB0, ruleB1, ruleB2, ruleB3, ruleL, ↓retK, ncall, Todo_eq, packV, eqTB, litB, litV, fitL, fit, veqL, veq, sbin, sun, nilB, cellsV, oneB, okC, vals, fillV, partsE, Int.reduceLE, Int.reduceLT, Int.reduceToNat, Nat.reduceAdd, Nat.reduceEqDiff, Nat.reduceLT, Nat.reduceLeDiff, Nat.reduceMul, Nat.reduceSub, reduceCtorEq, tbAGd0, Try.results41, h2]
  exact ⟨_, [_], [], Le.refl _, List.Sublist.cons _ (List.Sublist.refl _), List.nil_sublist _, rfl, rfl, rfl⟩

set_option linter.defProp false in
def tbAGd1 := (And.intro (And.intro (And.intro (And.intro (And.intro (And.intro Ty.sz3 Ty.by3) (And.intro Ty.ag3 Ty.zr3)) (And.intro (And.intro Ty.un3 Ty.sz4) (And.intro Ty.by4 (And.intro Ty.ag4 Ty.zr4)))) (And.intro (And.intro (And.intro Ty.un4 Ty.sz9) (And.intro Ty.by9 (And.intro Ty.ag9 Ty.zr9))) (And.intro (And.intro Ty.un9 Ty.sz41) (And.intro Ty.by41 (And.intro Ty.ag41 Ty.zr41))))) (And.intro (And.intro (And.intro (And.intro Ty.un41 Ty.sz53) (And.intro Ty.by53 (And.intro Ty.ag53 Ty.zr53))) (And.intro (And.intro Ty.fl53_0 Ty.pl53_0) (And.intro Ty.fl53_1 (And.intro Ty.pl53_1 Ty.sz54)))) (And.intro (And.intro (And.intro Ty.by54 Ty.ag54) (And.intro Ty.zr54 (And.intro Ty.un54 Ty.sz56))) (And.intro (And.intro Ty.by56 Ty.ag56) (And.intro Ty.zr56 (And.intro Ty.fl56_0 Ty.pl56_0)))))) (And.intro (And.intro (And.intro (And.intro (And.intro Ty.fl56_1 Ty.pl56_1) (And.intro Ty.fl56_2 Ty.pl56_2)) (And.intro (And.intro Ty.fl56_3 Ty.pl56_3) (And.intro Ty.fl56_4 (And.intro Ty.pl56_4 Ty.fl56_5)))) (And.intro (And.intro (And.intro Ty.pl56_5 Ty.fl56_6) (And.intro Ty.pl56_6 (And.intro Ty.sz61 Ty.by61))) (And.intro (And.intro Ty.ag61 Ty.zr61) (And.intro Ty.fl61_0 (And.intro Ty.pl61_0 Ty.fl61_1))))) (And.intro (And.intro (And.intro (And.intro Ty.pl61_1 Ty.fl61_2) (And.intro Ty.pl61_2 (And.intro Ty.sz78 Ty.by78))) (And.intro (And.intro Ty.ag78 Ty.zr78) (And.intro Ty.sz109 (And.intro Ty.by109 Ty.ag109)))) (And.intro (And.intro (And.intro Ty.zr109 Ty.fl109_0) (And.intro Ty.pl109_0 (And.intro Ty.fl109_1 Ty.pl109_1))) (And.intro (And.intro Ty.fl109_2 Ty.pl109_2) (And.intro Ty.eq53 (And.intro Ty.eq109 Ty.cb41)))))))
theorem indexF_ok (l : List Dlt) (a : Arr) (b : Nat) (hl : l.length ≤ 9223372036854775807) : Ok Try.prog 62 [vDlts l, .lit (.func (.func 41) #[] #[.pointer (some ⟨b, 0, none⟩)])] [(b, .c (cArr a))] fun v bs rs =>
    bs = [(b, .c (cArr a))] ∧ rs = [] ∧ ∃ n, v = vint n ∧ (0 ≤ n ↔ ∃ x ∈ l, x.tick < a.since) := by
  refine Ok.of_ex Ty.mixed Try.func62 rfl (by simp [Try.ntmps62]) (by kernel_rfl) fun F w0 I0 => ?_
  simp only [↓ruleA0, ↓ruleA1, ↓ruleA2, ruleB0, ruleB1, ruleB2, ruleB3, ruleL, ↓retK, ncall, Todo_eq, packV, eqTB, litB, litV, fitL, fit, veqL, veq, sbin, sun, nilB, cellsV, oneB, okC, vals, fillV, partsE, Int.reduceLE, Int.reduceLT, Int.reduceToNat, Nat.reduceAdd, Nat.reduceEqDiff, Nat.reduceLT, Nat.reduceLeDiff, Nat.reduceMul, Nat.reduceSub, reduceCtorEq, tbAGd1, Try.results62]
  refine EX_for Ty.mixed (by kernel_rfl) l.length (fun i S => (∀ j, (h : j < l.length) → j < i → ¬ l[j].tick < a.since) ∧ S.σ 0 = vDlts l ∧ S.σ 1 = .lit (.func (.func 41) #[] #[.pointer (some ⟨b, 0, none⟩)]) ∧ S.σ 7 = vint l.length ∧ S.σ 8 = vint i ∧ S.boxes = [(b, .c (cArr a))] ∧ S.rows = []) ⟨0, by simp, ?_⟩ (fun i S hi ⟨ho, g0, g1, g7, g8, gb, gr⟩ => ?_) (fun S ⟨ho, g0, g1, g7, g8, gb, gr⟩ => ?_)
  · simp only [↓ruleA0, ↓ruleA1, ↓ruleA2, ruleB0, ruleB1, ruleB2, ruleB3, ruleL, ↓retK, ncall, Todo_eq, packV, eqTB, litB, litV, fitL, fit, veqL, veq, sbin, sun, nilB, cellsV, oneB, okC, vals, fillV, partsE, Int.reduceLE, Int.reduceLT, Int.reduceToNat, Nat.reduceAdd, Nat.reduceEqDiff, Nat.reduceLT, Nat.reduceLeDiff, Nat.reduceMul, Nat.reduceSub, reduceCtorEq, tbAGd1, Try.results62, List.length_map]
  · simp only [↓ruleA0, ↓ruleA1, ↓ruleA2, ruleB0, ruleB1, ruleB2, ruleB3, ruleL, ↓retK, ncall, Todo_eq, packV, eqTB, litB, litV, fitL, fit, veqL, veq, sbin, sun, nilB, cellsV, oneB, okC, vals, fillV, partsE, Int.reduceLE, Int.reduceLT, Int.reduceToNat, Nat.reduceAdd, Nat.reduceEqDiff, Nat.reduceLT, Nat.reduceLeDiff, Nat.reduceMul, Nat.reduceSub, reduceCtorEq, tbAGd1, Try.results62, g0, g1, g7, g8, gb, gr, Int.ofNat_lt, hi, List.length_map, getD_map]
    refine OkF_with [_] [] (List.Perm.refl _) (late_ok l[i] a b) ?_
    rintro v bs rs ⟨rfl, rfl, rfl⟩
    by_cases hx : l[i].tick < a.since
    · simp only [↓ruleA0, ↓ruleA1, ↓ruleA2, ruleB0, ruleB1, ruleB2, ruleB3, ruleL, ↓retK, ncall, Todo_eq, packV, eqTB, litB, litV, fitL, fit, veqL, veq, sbin, sun, nilB, cellsV, oneB, okC, vals, fillV, partsE, Int.reduceLE, Int.reduceLT, Int.reduceToNat, Nat.reduceAdd, Nat.reduceEqDiff, Nat.reduceLT, Nat.reduceLeDiff, Nat.reduceMul, Nat.reduceSub, reduceCtorEq, tbAGd1, Try.results62, g0, g1, g7, g8, gb, gr, hx]
      refine ⟨_, [_], [], Le.refl _, List.Sublist.refl _, List.nil_sublist _, rfl, rfl, i, rfl, ?_⟩
      exact ⟨fun _ => ⟨_, List.getElem_mem hi, hx⟩, fun _ => by omega⟩
    · simp only [↓ruleA0, ↓ruleA1, ↓ruleA2, ruleB0, ruleB1, ruleB2, ruleB3, ruleL, ↓retK, ncall, Todo_eq, packV, eqTB, litB, litV, fitL, fit, veqL, veq, sbin, sun, nilB, cellsV, oneB, okC, vals, fillV, partsE, Int.reduceLE, Int.reduceLT, Int.reduceToNat, Nat.reduceAdd, Nat.reduceEqDiff, Nat.reduceLT, Nat.reduceLeDiff, Nat.reduceMul, Nat.reduceSub, reduceCtorEq, tbAGd1, Try.results62, g0, g1, g7, g8, gb, gr, hx, wrap_succ hi hl]
      refine ⟨0, fun j h hj => ?_, rfl⟩
      by_cases e : j = i
      · subst e; exact hx
      · exact ho j h (by omega)
  · simp only [↓ruleA0, ↓ruleA1, ↓ruleA2, ruleB0, ruleB1, ruleB2, ruleB3, ruleL, ↓retK, ncall, Todo_eq, packV, eqTB, litB, litV, fitL, fit, veqL, veq, sbin, sun, nilB, cellsV, oneB, okC, vals, fillV, partsE, Int.reduceLE, Int.reduceLT, Int.reduceToNat, Nat.reduceAdd, Nat.reduceEqDiff, Nat.reduceLT, Nat.reduceLeDiff, Nat.reduceMul, Nat.reduceSub, reduceCtorEq, tbAGd1, Try.results62, g0, g1, g7, g8, gb, gr, Int.ofNat_lt, Nat.lt_irrefl, List.length_map]
    refine ⟨_, [_], [], Le.refl _, List.Sublist.refl _, List.nil_sublist _, rfl, rfl, -1, rfl, ?_⟩
    refine ⟨fun h => absurd h (by decide), fun ⟨x, hx, h⟩ => ?_⟩
    obtain ⟨j, hj, e⟩ := List.getElem_of_mem hx
    exact absurd (e ▸ h) (ho j hj hj)
set_option linter.defProp false in
def tbAGd2 := (And.intro (And.intro (And.intro (And.intro (And.intro (And.intro Ty.sz3 Ty.by3) (And.intro Ty.ag3 Ty.zr3)) (And.intro (And.intro Ty.un3 Ty.sz4) (And.intro Ty.by4 (And.intro Ty.ag4 Ty.zr4)))) (And.intro (And.intro (And.intro Ty.un4 Ty.sz9) (And.intro Ty.by9 (And.intro Ty.ag9 Ty.zr9))) (And.intro (And.intro Ty.un9 Ty.sz41) (And.intro Ty.by41 (And.intro Ty.ag41 Ty.zr41))))) (And.intro (And.intro (And.intro (And.intro Ty.un41 Ty.sz53) (And.intro Ty.by53 (And.intro Ty.ag53 Ty.zr53))) (And.intro (And.intro Ty.fl53_0 Ty.pl53_0) (And.intro Ty.fl53_1 (And.intro Ty.pl53_1 Ty.sz54)))) (And.intro (And.intro (And.intro Ty.by54 Ty.ag54) (And.intro Ty.zr54 (And.intro Ty.un54 Ty.sz56))) (And.intro (And.intro Ty.by56 Ty.ag56) (And.intro Ty.zr56 (And.intro Ty.fl56_0 Ty.pl56_0)))))) (And.intro (And.intro (And.intro (And.intro (And.intro Ty.fl56_1 Ty.pl56_1) (And.intro Ty.fl56_2 (And.intro Ty.pl56_2 Ty.fl56_3))) (And.intro (And.intro Ty.pl56_3 Ty.fl56_4) (And.intro Ty.pl56_4 (And.intro Ty.fl56_5 Ty.pl56_5)))) (And.intro (And.intro (And.intro Ty.fl56_6 Ty.pl56_6) (And.intro Ty.sz61 (And.intro Ty.by61 Ty.ag61))) (And.intro (And.intro Ty.zr61 Ty.fl61_0) (And.intro Ty.pl61_0 (And.intro Ty.fl61_1 Ty.pl61_1))))) (And.intro (And.intro (And.intro (And.intro Ty.fl61_2 Ty.pl61_2) (And.intro Ty.sz78 (And.intro Ty.by78 Ty.ag78))) (And.intro (And.intro Ty.zr78 Ty.sz109) (And.intro Ty.by109 (And.intro Ty.ag109 Ty.zr109)))) (And.intro (And.intro (And.intro Ty.fl109_0 Ty.pl109_0) (And.intro Ty.fl109_1 (And.intro Ty.pl109_1 Ty.fl109_2))) (And.intro (And.intro Ty.pl109_2 Ty.eq53) (And.intro Ty.eq109 (And.intro Ty.cb41 Ty.cb62)))))))
theorem containsF_ok (l : List Dlt) (a : Arr) (b : Nat) (hl : l.length ≤ 9223372036854775807) : Ok Try.prog 40 [vDlts l, .lit (.func (.func 41) #[] #[.pointer (some ⟨b, 0, none⟩)])] [(b, .c (cArr a))] fun v bs rs =>
    v = vbool (l.any fun x => decide (x.tick < a.since)) ∧ bs = [(b, .c (cArr a))] ∧ rs = [] := by
  refine Ok.of_ex Ty.mixed Try.func40 rfl (by simp [Try.ntmps40]) (by kernel_rfl) fun F w0 I0 => ?_
  simp only [↓ruleA0, ↓ruleA1, ↓ruleA2, ruleB0, ruleB1, ruleB2, ruleB3, ruleL, ↓retK, ncall, Todo_eq, packV, eqTB, litB, litV, fitL, fit, veqL, veq, sbin, sun, nilB, cellsV, oneB, okC, vals, fillV, partsE, Int.reduceLE, Int.reduceLT, Int.reduceToNat, Nat.reduceAdd, Nat.reduceEqDiff, Nat.reduceLT, Nat.reduceLeDiff, Nat.reduceMul, Nat.reduceSub, reduceCtorEq, tbAGd2, Try.results40]
  refine OkF_with [_] [] (List.Perm.refl _) (indexF_ok l a b hl) ?_
  rintro v bs rs ⟨rfl, rfl, n, rfl, hn⟩
  simp only [↓ruleA0, ↓ruleA1, ↓ruleA2, ruleB0, ruleB1, ruleB2, ruleB3, ruleL, ↓retK, ncall, Todo_eq, packV, eqTB, litB, litV, fitL, fit, veqL, veq, sbin, sun, nilB, cellsV, oneB, okC, vals, fillV, partsE, Int.reduceLE, Int.reduceLT, Int.reduceToNat, Nat.reduceAdd, Nat.reduceEqDiff, Nat.reduceLT, Nat.reduceLeDiff, Nat.reduceMul, Nat.reduceSub, reduceCtorEq, tbAGd2, Try.results40]
  refine ⟨_, [_], [], Le.refl _, List.Sublist.refl _, List.nil_sublist _, ?_, rfl, rfl⟩
  have : (l.any fun x => decide (x.tick < a.since)) = decide (0 ≤ n) := by
    rw [Bool.eq_iff_iff]; simp [hn]
  rw [this]
end Go.Proofs.Ytopfanlkbepemaa

/- Arrangements: contracts, part i: every. -/
set_option linter.unusedSimpArgs false
set_option maxRecDepth 100000
namespace Go.Proofs.Ytopfanlkbepemaa
open Go.VL Go.Ar Go.Proofs.Ytopfanlkbepemaa

def zD : List V := [vstr ⟨#[]⟩, vint 0, vstr ⟨#[]⟩, vstr ⟨#[]⟩, vint 0, nilS, vint 0, vint 0, vint 0, vint 0]
theorem repl_len (n : Nat) : (List.replicate n zD).flatten.length = n * 10 := by
  induction n with
  | zero => rfl
  | succ n ih => rw [List.replicate_succ, List.flatten_cons, List.length_append, ih, Nat.add_mul]; simp only [zD, List.length_cons, List.length_nil]; omega
set_option linter.defProp false in
def tbAGe0 := (And.intro (And.intro (And.intro (And.intro (And.intro (And.intro Ty.sz3 Ty.by3) (And.intro Ty.ag3 (And.intro Ty.zr3 Ty.un3))) (And.intro (And.intro Ty.sz9 (And.intro Ty.by9 Ty.ag9)) (And.intro Ty.zr9 (And.intro Ty.un9 Ty.sz22)))) (And.intro (And.intro (And.intro Ty.by22 Ty.ag22) (And.intro Ty.zr22 (And.intro Ty.un22 Ty.sz24))) (And.intro (And.intro Ty.by24 (And.intro Ty.ag24 Ty.zr24)) (And.intro Ty.fl24_0 (And.intro Ty.pl24_0 Ty.fl24_1))))) (And.intro (And.intro (And.intro (And.intro Ty.pl24_1 Ty.sz41) (And.intro Ty.by41 (And.intro Ty.ag41 Ty.zr41))) (And.intro (And.intro Ty.un41 (And.intro Ty.sz53 Ty.by53)) (And.intro Ty.ag53 (And.intro Ty.zr53 Ty.fl53_0)))) (And.intro (And.intro (And.intro Ty.pl53_0 Ty.fl53_1) (And.intro Ty.pl53_1 (And.intro Ty.sz54 Ty.by54))) (And.intro (And.intro Ty.ag54 (And.intro Ty.zr54 Ty.un54)) (And.intro Ty.sz56 (And.intro Ty.by56 Ty.ag56)))))) (And.intro (And.intro (And.intro (And.intro (And.intro Ty.zr56 Ty.fl56_0) (And.intro Ty.pl56_0 (And.intro Ty.fl56_1 Ty.pl56_1))) (And.intro (And.intro Ty.fl56_2 (And.intro Ty.pl56_2 Ty.fl56_3)) (And.intro Ty.pl56_3 (And.intro Ty.fl56_4 Ty.pl56_4)))) (And.intro (And.intro (And.intro Ty.fl56_5 Ty.pl56_5) (And.intro Ty.fl56_6 (And.intro Ty.pl56_6 Ty.sz61))) (And.intro (And.intro Ty.by61 (And.intro Ty.ag61 Ty.zr61)) (And.intro Ty.fl61_0 (And.intro Ty.pl61_0 Ty.fl61_1))))) (And.intro (And.intro (And.intro (And.intro Ty.pl61_1 Ty.fl61_2) (And.intro Ty.pl61_2 (And.intro Ty.sz65 Ty.by65))) (And.intro (And.intro Ty.ag65 (And.intro Ty.zr65 Ty.fl65_0)) (And.intro Ty.pl65_0 (And.intro Ty.fl65_1 Ty.pl65_1)))) (And.intro (And.intro (And.intro Ty.sz109 (And.intro Ty.by109 Ty.ag109)) (And.intro Ty.zr109 (And.intro Ty.fl109_0 Ty.pl109_0))) (And.intro (And.intro Ty.fl109_1 (And.intro Ty.pl109_1 Ty.fl109_2)) (And.intro Ty.pl109_2 (And.intro Ty.eq53 Ty.eq109)))))))
theorem every_ok (a : Arr) (hl : a.groups.length ≤ big) (hn : (allD a.groups).length ≤ big) : Ok Try.prog 34 [vArr a] [] fun v bs rs =>
    rs = [] ∧ ∃ b, v = .lit (.slice (some ⟨b, 0, none⟩) (allD a.groups).length (allD a.groups).length) ∧ bs = [(b, .c ((allD a.groups).map cDlt).flatten)] := by
  refine Ok.of_exM [(12, 1)] Ty.mixed Try.func34 rfl (by simp [Try.ntmps34]) (by kernel_rfl) fun F w0 I0 => ?_
  obtain ⟨s, l⟩ := a
  simp only at hl hn
  unfold big at hl hn
  simp only [↓ruleA0, ↓ruleA1, ↓ruleA2, ruleB0, ruleB1, ruleB2, ruleB3, ruleL, ↓retK, ncall, Todo_eq, packV, eqTB, litB, litV, fitL, fit, veqL, veq, sbin, sun, nilB, cellsV, oneB, okC, vals, fillV, partsE, Int.reduceLE, Int.reduceLT, Int.reduceToNat, Nat.reduceAdd, Nat.reduceEqDiff, Nat.reduceLT, Nat.reduceLeDiff, Nat.reduceMul, Nat.reduceSub, reduceCtorEq, tbAGe0, Try.results34]
  refine fun b1 h1 => ?_; replace h1 := newb h1; try simp only [Nb] at h1
  simp only [↓ruleA0, ↓ruleA1, ↓ruleA2, ruleB0, ruleB1, ruleB2, ruleB3, ruleL, ↓retK, ncall, Todo_eq, packV, eqTB, litB, litV, fitL, fit, veqL, veq, sbin, sun, nilB, cellsV, oneB, okC, vals, fillV, partsE, Int.reduceLE, Int.reduceLT, Int.reduceToNat, Nat.reduceAdd, Nat.reduceEqDiff, Nat.reduceLT, Nat.reduceLeDiff, Nat.reduceMul, Nat.reduceSub, reduceCtorEq, tbAGe0, Try.results34]
  refine EX_for Ty.mixed (by kernel_rfl) l.length (fun i S => S.σ 3 = vint (allD (l.take i)).length ∧ S.rows = [] ∧ S.σ 1 = ptr b1 ∧ S.σ 11 = vGrps l ∧ S.σ 12 = vint l.length ∧ S.σ 13 = vint i ∧ S.boxes = [(b1, .c (cArr ⟨s, l⟩))]) ⟨0, ?_⟩ (fun i S hi ⟨g3, gr, g1, g11, g12, g13, gb⟩ => ?_) (fun S ⟨g3, gr, g1, g11, g12, g13, gb⟩ => ?_)
  · simp only [↓ruleA0, ↓ruleA1, ↓ruleA2, ruleB0, ruleB1, ruleB2, ruleB3, ruleL, ↓retK, ncall, Todo_eq, packV, eqTB, litB, litV, fitL, fit, veqL, veq, sbin, sun, nilB, cellsV, oneB, okC, vals, fillV, partsE, Int.reduceLE, Int.reduceLT, Int.reduceToNat, Nat.reduceAdd, Nat.reduceEqDiff, Nat.reduceLT, Nat.reduceLeDiff, Nat.reduceMul, Nat.reduceSub, reduceCtorEq, tbAGe0, Try.results34, List.length_map]
    rfl
  · have hlen := allD_len l i hi
    simp only [↓ruleA0, ↓ruleA1, ↓ruleA2, ruleB0, ruleB1, ruleB2, ruleB3, ruleL, ↓retK, ncall, Todo_eq, packV, eqTB, litB, litV, fitL, fit, veqL, veq, sbin, sun, nilB, cellsV, oneB, okC, vals, fillV, partsE, Int.reduceLE, Int.reduceLT, Int.reduceToNat, Nat.reduceAdd, Nat.reduceEqDiff, Nat.reduceLT, Nat.reduceLeDiff, Nat.reduceMul, Nat.reduceSub, reduceCtorEq, tbAGe0, Try.results34, g3, gr, g1, g11, g12, g13, gb, Int.ofNat_lt, hi, List.length_map, getD_map]
    refine fun b5 h5 => ?_; replace h5 := newb h5; try simp only [Nb] at h5
    simp only [↓ruleA0, ↓ruleA1, ↓ruleA2, ruleB0, ruleB1, ruleB2, ruleB3, ruleL, ↓retK, ncall, Todo_eq, packV, eqTB, litB, litV, fitL, fit, veqL, veq, sbin, sun, nilB, cellsV, oneB, okC, vals, fillV, partsE, Int.reduceLE, Int.reduceLT, Int.reduceToNat, Nat.reduceAdd, Nat.reduceEqDiff, Nat.reduceLT, Nat.reduceLeDiff, Nat.reduceMul, Nat.reduceSub, reduceCtorEq, tbAGe0, Try.results34, g3, gr, g1, g11, g12, g13, gb, h5, wrap_succ hi (Nat.le_trans hl (by decide)), List.length_map]
    refine ⟨1, ?_, rfl⟩
    have : (allD (l.take (i + 1))).length = (allD (l.take i)).length + l[i].ds.length := by rw [allD_take l i hi, List.length_append]
    rw [this, wrap_id (by omega) (by omega)]
    rfl
  · simp only [↓ruleA0, ↓ruleA1, ↓ruleA2, ruleB0, ruleB1, ruleB2, ruleB3, ruleL, ↓retK, ncall, Todo_eq, packV, eqTB, litB, litV, fitL, fit, veqL, veq, sbin, sun, nilB, cellsV, oneB, okC, vals, fillV, partsE, Int.reduceLE, Int.reduceLT, Int.reduceToNat, Nat.reduceAdd, Nat.reduceEqDiff, Nat.reduceLT, Nat.reduceLeDiff, Nat.reduceMul, Nat.reduceSub, reduceCtorEq, tbAGe0, Try.results34, g3, gr, g1, g11, g12, g13, gb, Int.ofNat_lt, Nat.lt_irrefl, List.length_map]
    rw [List.take_of_length_le (Nat.le_refl _)]
    refine ⟨⟨by omega, by omega⟩, ?_⟩
    refine fun b6 h6 => ?_; replace h6 := newb h6; try simp only [Nb] at h6
    simp only [↓ruleA0, ↓ruleA1, ↓ruleA2, ruleB0, ruleB1, ruleB2, ruleB3, ruleL, ↓retK, ncall, Todo_eq, packV, eqTB, litB, litV, fitL, fit, veqL, veq, sbin, sun, nilB, cellsV, oneB, okC, vals, fillV, partsE, Int.reduceLE, Int.reduceLT, Int.reduceToNat, Nat.reduceAdd, Nat.reduceEqDiff, Nat.reduceLT, Nat.reduceLeDiff, Nat.reduceMul, Nat.reduceSub, reduceCtorEq, tbAGe0, Try.results34, g3, gr, g1, g11, g12, g13, gb, h6, List.length_map]
    refine EX_for Ty.mixed (by kernel_rfl) l.length (fun i S => ∃ rest : List V, rest.length = ((allD l).length - (allD (l.take i)).length) * 10 ∧ S.σ 7 = vint (allD (l.take i)).length ∧ S.σ 6 = .lit (.slice (some ⟨b6, 0, none⟩) (allD l).length (allD l).length) ∧ S.rows = [] ∧ S.σ 26 = vGrps l ∧ S.σ 27 = vint l.length ∧ S.σ 28 = vint i ∧ S.boxes = [(b6, .c (((allD (l.take i)).map cDlt).flatten ++ rest)), (b1, .c (cArr ⟨s, l⟩))]) ⟨0, (List.replicate (allD l).length zD).flatten, ?_, ?_⟩ (fun i S hi ⟨rest, hr, g7, g6, gr, g26, g27, g28, gb⟩ => ?_) (fun S ⟨rest, hr, g7, g6, gr, g26, g27, g28, gb⟩ => ?_)
    · rw [repl_len]; rfl
    · simp only [↓ruleA0, ↓ruleA1, ↓ruleA2, ruleB0, ruleB1, ruleB2, ruleB3, ruleL, ↓retK, ncall, Todo_eq, packV, eqTB, litB, litV, fitL, fit, veqL, veq, sbin, sun, nilB, cellsV, oneB, okC, vals, fillV, partsE, Int.reduceLE, Int.reduceLT, Int.reduceToNat, Nat.reduceAdd, Nat.reduceEqDiff, Nat.reduceLT, Nat.reduceLeDiff, Nat.reduceMul, Nat.reduceSub, reduceCtorEq, tbAGe0, Try.results34, gr, gb]
      exact ⟨rfl, rfl⟩
    · have hlen := allD_len l i hi
      simp only [↓ruleA0, ↓ruleA1, ↓ruleA2, ruleB0, ruleB1, ruleB2, ruleB3, ruleL, ↓retK, ncall, Todo_eq, packV, eqTB, litB, litV, fitL, fit, veqL, veq, sbin, sun, nilB, cellsV, oneB, okC, vals, fillV, partsE, Int.reduceLE, Int.reduceLT, Int.reduceToNat, Nat.reduceAdd, Nat.reduceEqDiff, Nat.reduceLT, Nat.reduceLeDiff, Nat.reduceMul, Nat.reduceSub, reduceCtorEq, tbAGe0, Try.results34, g7, g6, gr, g26, g27, g28, gb, h6, Int.ofNat_lt, hi, List.length_map, getD_map]
      refine fun b9 h9 => ?_; replace h9 := newb h9; try simp only [Nb] at h9
      simp only [↓ruleA0, ↓ruleA1, ↓ruleA2, ruleB0, ruleB1, ruleB2, ruleB3, ruleL, ↓retK, ncall, Todo_eq, packV, eqTB, litB, litV, fitL, fit, veqL, veq, sbin, sun, nilB, cellsV, oneB, okC, vals, fillV, partsE, Int.reduceLE, Int.reduceLT, Int.reduceToNat, Nat.reduceAdd, Nat.reduceEqDiff, Nat.reduceLT, Nat.reduceLeDiff, Nat.reduceMul, Nat.reduceSub, reduceCtorEq, tbAGe0, Try.results34, g7, g6, gr, g26, g27, g28, gb, h6, h9, List.length_map]
      have hX := cellsD_len (allD (l.take i))
      have hY := cellsD_len l[i].ds
      have htl : (allD (l.take (i + 1))).length = (allD (l.take i)).length + l[i].ds.length := by rw [allD_take l i hi, List.length_append]
      refine ⟨by omega, ⟨?_, ?_⟩⟩
      · rw [List.length_append, hX, hr]
        split <;> omega
      · refine ⟨1, rest.drop (l[i].ds.length * 10), ?_, ?_, ?_, ?_⟩
        · rw [List.length_drop, hr, htl]; omega
        · rw [Nat.min_eq_left (by omega), wrap_id (by omega) (by omega), htl]
          rfl
        · rw [wrap_succ hi (Nat.le_trans hl (by decide))]
        · have hfin : ((allD (l.take (i + 1))).map cDlt).flatten = ((allD (l.take i)).map cDlt).flatten ++ (l[i].ds.map cDlt).flatten := by rw [allD_take l i hi, List.map_append, List.flatten_append]
          rw [Nat.min_eq_left (by omega), hfin]
          by_cases hA : (allD l).length = (allD (l.take i)).length
          · have hm : l[i].ds = [] := List.eq_nil_of_length_eq_zero (by omega)
            rw [if_pos hA, hm]
            simp
          · rw [if_neg hA, List.take_left' hX, List.take_of_length_le (Nat.le_of_eq hY), ← List.drop_drop, List.drop_left' hX]
            rfl
    · simp only [↓ruleA0, ↓ruleA1, ↓ruleA2, ruleB0, ruleB1, ruleB2, ruleB3, ruleL, ↓retK, ncall, Todo_eq, packV, eqTB, litB, litV, fitL, fit, veqL, veq, sbin, sun, nilB, cellsV, oneB, okC, vals, fillV, partsE, Int.reduceLE, Int.reduceLT, Int.reduceToNat, Nat.reduceAdd, Nat.reduceEqDiff, Nat.reduceLT, Nat.reduceLeDiff, Nat.reduceMul, Nat.reduceSub, reduceCtorEq, tbAGe0, Try.results34, g7, g6, gr, g26, g27, g28, gb, h6, Int.ofNat_lt, Nat.lt_irrefl, List.length_map]
      rw [List.take_of_length_le (Nat.le_refl _)] at hr ⊢
      obtain rfl : rest = [] := List.eq_nil_of_length_eq_zero (by omega)
      rw [List.append_nil]
      exact ⟨_, [_], [], Le.refl _, List.Sublist.cons_cons _ (List.nil_sublist _), List.nil_sublist _, rfl, b6, rfl, rfl⟩
theorem every_row (a : Arr) (hl : a.groups.length ≤ big) (hn : (allD a.groups).length ≤ big) : OkRow Try.prog 34 [vArr a] 10 61 ((allD a.groups).map cDlt) := by
  refine Ok.toRow (every_ok a hl hn) fun v bs rs h => ?_
  obtain ⟨rfl, b, rfl, rfl⟩ := h
  refine ⟨b, _, 10, 61, (allD a.groups).map cDlt, [], List.Perm.refl _, fun e he => ?_, by simp, by decide, Nat.le_trans hn (by decide), rfl, rfl, _, rfl, rfl⟩
  obtain ⟨x, _, rfl⟩ := List.mem_map.1 he
  rfl
end Go.Proofs.Ytopfanlkbepemaa

/- Arrangements: contracts, part j: Keys. -/
set_option linter.unusedSimpArgs false
set_option maxRecDepth 100000
namespace Go.Proofs.Ytopfanlkbepemaa
open Go.VL Go.Ar Go.Proofs.Ytopfanlkbepemaa

def fitG (l : List Grp) : Prop := l.length ≤ big ∧ ∀ g ∈ l, fitDs g.ds
def hasAt (g : Grp) (t : Int) : Bool := decide (0 < (rowsM (consM (earlyM g.ds t))).length)
def keysP (l : List Grp) (t : Int) : List Str := (l.filter fun g => hasAt g t).map (·.key)
set_option linter.defProp false in
def tbAGf0 := (And.intro (And.intro (And.intro (And.intro (And.intro (And.intro Ty.sz3 (And.intro Ty.by3 Ty.ag3)) (And.intro Ty.zr3 (And.intro Ty.un3 Ty.sz4))) (And.intro (And.intro Ty.by4 (And.intro Ty.ag4 Ty.zr4)) (And.intro (And.intro Ty.un4 Ty.sz9) (And.intro Ty.by9 Ty.ag9)))) (And.intro (And.intro (And.intro Ty.zr9 (And.intro Ty.un9 Ty.sz22)) (And.intro (And.intro Ty.by22 Ty.ag22) (And.intro Ty.zr22 Ty.un22))) (And.intro (And.intro Ty.sz24 (And.intro Ty.by24 Ty.ag24)) (And.intro (And.intro Ty.zr24 Ty.fl24_0) (And.intro Ty.pl24_0 Ty.fl24_1))))) (And.intro (And.intro (And.intro (And.intro Ty.pl24_1 (And.intro Ty.sz29 Ty.by29)) (And.intro (And.intro Ty.ag29 Ty.zr29) (And.intro Ty.un29 Ty.sz32))) (And.intro (And.intro Ty.by32 (And.intro Ty.ag32 Ty.zr32)) (And.intro (And.intro Ty.un32 Ty.sz35) (And.intro Ty.by35 Ty.ag35)))) (And.intro (And.intro (And.intro Ty.zr35 (And.intro Ty.un35 Ty.sz41)) (And.intro (And.intro Ty.by41 Ty.ag41) (And.intro Ty.zr41 Ty.un41))) (And.intro (And.intro Ty.sz53 (And.intro Ty.by53 Ty.ag53)) (And.intro (And.intro Ty.zr53 Ty.fl53_0) (And.intro Ty.pl53_0 Ty.fl53_1)))))) (And.intro (And.intro (And.intro (And.intro (And.intro Ty.pl53_1 (And.intro Ty.sz54 Ty.by54)) (And.intro Ty.ag54 (And.intro Ty.zr54 Ty.un54))) (And.intro (And.intro Ty.sz56 (And.intro Ty.by56 Ty.ag56)) (And.intro (And.intro Ty.zr56 Ty.fl56_0) (And.intro Ty.pl56_0 Ty.fl56_1)))) (And.intro (And.intro (And.intro Ty.pl56_1 (And.intro Ty.fl56_2 Ty.pl56_2)) (And.intro (And.intro Ty.fl56_3 Ty.pl56_3) (And.intro Ty.fl56_4 Ty.pl56_4))) (And.intro (And.intro Ty.fl56_5 (And.intro Ty.pl56_5 Ty.fl56_6)) (And.intro (And.intro Ty.pl56_6 Ty.sz61) (And.intro Ty.by61 Ty.ag61))))) (And.intro (And.intro (And.intro (And.intro Ty.zr61 (And.intro Ty.fl61_0 Ty.pl61_0)) (And.intro (And.intro Ty.fl61_1 Ty.pl61_1) (And.intro Ty.fl61_2 Ty.pl61_2))) (And.intro (And.intro Ty.sz65 (And.intro Ty.by65 Ty.ag65)) (And.intro (And.intro Ty.zr65 Ty.fl65_0) (And.intro Ty.pl65_0 Ty.fl65_1)))) (And.intro (And.intro (And.intro Ty.pl65_1 (And.intro Ty.sz109 Ty.by109)) (And.intro (And.intro Ty.ag109 Ty.zr109) (And.intro Ty.fl109_0 Ty.pl109_0))) (And.intro (And.intro Ty.fl109_1 (And.intro Ty.pl109_1 Ty.fl109_2)) (And.intro (And.intro Ty.pl109_2 Ty.eq53) (And.intro Ty.eq109 Ty.cb38)))))))
theorem keysP_ok (a : Arr) (t : Int) (ha : fitG a.groups) : Ok Try.prog 14 [vArr a, vint t] [] fun v bs rs => bs = [] ∧
    ((t < a.since ∧ v = .tup [nilS, vint 220] ∧ rs = []) ∨ (¬ t < a.since ∧ ∃ y, v = .tup [.list (some y) 1 ((keysP a.groups t).map fun s => [vstr s]), vint 0] ∧ rs = [⟨y, 1, 9⟩])) := by
  refine Ok.of_ex Ty.mixed Try.func14 rfl (by simp [Try.ntmps14]) (by kernel_rfl) fun F w0 I0 => ?_
  obtain ⟨s, l⟩ := a
  obtain ⟨hl, hg⟩ := ha
  simp only at hl hg
  unfold big at hl
  simp only [↓ruleA0, ↓ruleA1, ↓ruleA2, ruleB0, ruleB1, ruleB2, ruleB3, ruleL, ↓retK, ncall, Todo_eq, packV, eqTB, litB, litV, fitL, fit, veqL, veq, sbin, sun, nilB, cellsV, oneB, okC, vals, fillV, partsE, Int.reduceLE, Int.reduceLT, Int.reduceToNat, Nat.reduceAdd, Nat.reduceEqDiff, Nat.reduceLT, Nat.reduceLeDiff, Nat.reduceMul, Nat.reduceSub, reduceCtorEq, tbAGf0, Try.results14]
  refine fun b1 h1 => ?_; replace h1 := newb h1; try simp only [Nb] at h1
  simp only [↓ruleA0, ↓ruleA1, ↓ruleA2, ruleB0, ruleB1, ruleB2, ruleB3, ruleL, ↓retK, ncall, Todo_eq, packV, eqTB, litB, litV, fitL, fit, veqL, veq, sbin, sun, nilB, cellsV, oneB, okC, vals, fillV, partsE, Int.reduceLE, Int.reduceLT, Int.reduceToNat, Nat.reduceAdd, Nat.reduceEqDiff, Nat.reduceLT, Nat.reduceLeDiff, Nat.reduceMul, Nat.reduceSub, reduceCtorEq, tbAGf0, Try.results14]
  refine onCond_splitb (fun hc => ?_) (fun hc => ?_)
  · simp only [↓ruleA0, ↓ruleA1, ↓ruleA2, ruleB0, ruleB1, ruleB2, ruleB3, ruleL, ↓retK, ncall, Todo_eq, packV, eqTB, litB, litV, fitL, fit, veqL, veq, sbin, sun, nilB, cellsV, oneB, okC, vals, fillV, partsE, Int.reduceLE, Int.reduceLT, Int.reduceToNat, Nat.reduceAdd, Nat.reduceEqDiff, Nat.reduceLT, Nat.reduceLeDiff, Nat.reduceMul, Nat.reduceSub, reduceCtorEq, tbAGf0, Try.results14]
    exact ⟨_, [], [], Le.refl _, List.nil_sublist _, List.nil_sublist _, rfl, .inl ⟨by simpa using hc, rfl, rfl⟩⟩
  · simp only [↓ruleA0, ↓ruleA1, ↓ruleA2, ruleB0, ruleB1, ruleB2, ruleB3, ruleL, ↓retK, ncall, Todo_eq, packV, eqTB, litB, litV, fitL, fit, veqL, veq, sbin, sun, nilB, cellsV, oneB, okC, vals, fillV, partsE, Int.reduceLE, Int.reduceLT, Int.reduceToNat, Nat.reduceAdd, Nat.reduceEqDiff, Nat.reduceLT, Nat.reduceLeDiff, Nat.reduceMul, Nat.reduceSub, reduceCtorEq, tbAGf0, Try.results14]
    refine AWP.nilRow 4 1 9 (by simp only [↓ruleA0, ↓ruleA1, ↓ruleA2, ruleB0, ruleB1, ruleB2, ruleB3, ruleL, ↓retK, ncall, Todo_eq, packV, eqTB, litB, litV, fitL, fit, veqL, veq, sbin, sun, nilB, cellsV, oneB, okC, vals, fillV, partsE, Int.reduceLE, Int.reduceLT, Int.reduceToNat, Nat.reduceAdd, Nat.reduceEqDiff, Nat.reduceLT, Nat.reduceLeDiff, Nat.reduceMul, Nat.reduceSub, reduceCtorEq, tbAGf0, Try.results14]) (by decide) ?_
    refine EX_forS Ty.mixed (by kernel_rfl) l.length (fun i S => ∃ y, S.σ 4 = .list (some y) 1 ((keysP (l.take i) t).map fun s => [vstr s]) ∧ S.rows = [⟨y, 1, 9⟩] ∧ S.σ 1 = vint t ∧ S.σ 5 = vint 0 ∧ S.σ 13 = vGrps l ∧ S.σ 14 = vint l.length ∧ S.σ 15 = vint i ∧ S.boxes = [(b1, .c (cArr ⟨s, l⟩))]) ⟨_, _, List.Sublist.refl _, List.Sublist.refl _, nilv, ?_⟩ (fun i S hi ⟨y, g4, gr, g1, g5, g13, g14, g15, gb⟩ => ?_) (fun S ⟨y, g4, gr, g1, g5, g13, g14, g15, gb⟩ => ?_)
    · simp only [↓ruleA0, ↓ruleA1, ↓ruleA2, ruleB0, ruleB1, ruleB2, ruleB3, ruleL, ↓retK, ncall, Todo_eq, packV, eqTB, litB, litV, fitL, fit, veqL, veq, sbin, sun, nilB, cellsV, oneB, okC, vals, fillV, partsE, Int.reduceLE, Int.reduceLT, Int.reduceToNat, Nat.reduceAdd, Nat.reduceEqDiff, Nat.reduceLT, Nat.reduceLeDiff, Nat.reduceMul, Nat.reduceSub, reduceCtorEq, tbAGf0, Try.results14, List.length_map]
      rfl
    · have htk : keysP (l.take (i + 1)) t = keysP (l.take i) t ++ (if hasAt l[i] t = true then [l[i].key] else []) := by
        unfold keysP
        rw [List.take_succ_eq_append_getElem hi, List.filter_append, List.map_append]
        by_cases hx : hasAt l[i] t = true <;> simp [hx]
      have hlen : (keysP (l.take i) t).length ≤ i := by
        have := List.length_filter_le (fun g => hasAt g t) (l.take i)
        simp only [List.length_take] at this
        unfold keysP; rw [List.length_map]; omega
      simp only [↓ruleA0, ↓ruleA1, ↓ruleA2, ruleB0, ruleB1, ruleB2, ruleB3, ruleL, ↓retK, ncall, Todo_eq, packV, eqTB, litB, litV, fitL, fit, veqL, veq, sbin, sun, nilB, cellsV, oneB, okC, vals, fillV, partsE, Int.reduceLE, Int.reduceLT, Int.reduceToNat, Nat.reduceAdd, Nat.reduceEqDiff, Nat.reduceLT, Nat.reduceLeDiff, Nat.reduceMul, Nat.reduceSub, reduceCtorEq, tbAGf0, Try.results14, g4, gr, g1, g5, g13, g14, g15, gb, Int.ofNat_lt, hi, List.length_map, getD_map]
      refine fun b7 h7 => ?_; replace h7 := newb h7; try simp only [Nb] at h7
      simp only [↓ruleA0, ↓ruleA1, ↓ruleA2, ruleB0, ruleB1, ruleB2, ruleB3, ruleL, ↓retK, ncall, Todo_eq, packV, eqTB, litB, litV, fitL, fit, veqL, veq, sbin, sun, nilB, cellsV, oneB, okC, vals, fillV, partsE, Int.reduceLE, Int.reduceLT, Int.reduceToNat, Nat.reduceAdd, Nat.reduceEqDiff, Nat.reduceLT, Nat.reduceLeDiff, Nat.reduceMul, Nat.reduceSub, reduceCtorEq, tbAGf0, Try.results14, g4, gr, g1, g5, g13, g14, g15, gb, h7]
      refine OkF_of _ (OkRow.list (at_ok l[i].ds t (hg _ (List.getElem_mem hi)))) ?_
      simp only [↓ruleA0, ↓ruleA1, ↓ruleA2, ruleB0, ruleB1, ruleB2, ruleB3, ruleL, ↓retK, ncall, Todo_eq, packV, eqTB, litB, litV, fitL, fit, veqL, veq, sbin, sun, nilB, cellsV, oneB, okC, vals, fillV, partsE, Int.reduceLE, Int.reduceLT, Int.reduceToNat, Nat.reduceAdd, Nat.reduceEqDiff, Nat.reduceLT, Nat.reduceLeDiff, Nat.reduceMul, Nat.reduceSub, reduceCtorEq, tbAGf0, Try.results14, g4, gr, g1, g5, g13, g14, g15, gb, h7, List.length_map]
      by_cases hx : hasAt l[i] t = true
      · have hx' : (0 : Int) < ((rowsM (consM (earlyM l[i].ds t))).length : Int) := by simpa [hasAt] using hx
        simp only [↓ruleA0, ↓ruleA1, ↓ruleA2, ruleB0, ruleB1, ruleB2, ruleB3, ruleL, ↓retK, ncall, Todo_eq, packV, eqTB, litB, litV, fitL, fit, veqL, veq, sbin, sun, nilB, cellsV, oneB, okC, vals, fillV, partsE, Int.reduceLE, Int.reduceLT, Int.reduceToNat, Nat.reduceAdd, Nat.reduceEqDiff, Nat.reduceLT, Nat.reduceLeDiff, Nat.reduceMul, Nat.reduceSub, reduceCtorEq, tbAGf0, Try.results14, g4, gr, g1, g5, g13, g14, g15, gb, h7, hx']
        refine fun y2 => takeRF_2 ?_
        simp only [↓ruleA0, ↓ruleA1, ↓ruleA2, ruleB0, ruleB1, ruleB2, ruleB3, ruleL, ↓retK, ncall, Todo_eq, packV, eqTB, litB, litV, fitL, fit, veqL, veq, sbin, sun, nilB, cellsV, oneB, okC, vals, fillV, partsE, Int.reduceLE, Int.reduceLT, Int.reduceToNat, Nat.reduceAdd, Nat.reduceEqDiff, Nat.reduceLT, Nat.reduceLeDiff, Nat.reduceMul, Nat.reduceSub, reduceCtorEq, tbAGf0, Try.results14, g4, gr, g1, g5, g13, g14, g15, gb, h7, wrap_succ hi (Nat.le_trans hl (by decide)), List.length_map]
        refine ⟨(by first | omega | (simp; omega)), fun y3 => ⟨_, [_], List.Sublist.cons _ (List.Sublist.refl _), List.Sublist.cons_cons _ (List.nil_sublist _), y3, ?_⟩⟩
        simp only [↓ruleA0, ↓ruleA1, ↓ruleA2, ruleB0, ruleB1, ruleB2, ruleB3, ruleL, ↓retK, ncall, Todo_eq, packV, eqTB, litB, litV, fitL, fit, veqL, veq, sbin, sun, nilB, cellsV, oneB, okC, vals, fillV, partsE, Int.reduceLE, Int.reduceLT, Int.reduceToNat, Nat.reduceAdd, Nat.reduceEqDiff, Nat.reduceLT, Nat.reduceLeDiff, Nat.reduceMul, Nat.reduceSub, reduceCtorEq, tbAGf0, Try.results14, g4, gr, g1, g5, g13, g14, g15, gb, h7, wrap_succ hi (Nat.le_trans hl (by decide))]
        rw [htk, if_pos hx, List.map_append]
        rfl
      · have hx' : ¬ (0 : Int) < ((rowsM (consM (earlyM l[i].ds t))).length : Int) := by simpa [hasAt] using hx
        simp only [↓ruleA0, ↓ruleA1, ↓ruleA2, ruleB0, ruleB1, ruleB2, ruleB3, ruleL, ↓retK, ncall, Todo_eq, packV, eqTB, litB, litV, fitL, fit, veqL, veq, sbin, sun, nilB, cellsV, oneB, okC, vals, fillV, partsE, Int.reduceLE, Int.reduceLT, Int.reduceToNat, Nat.reduceAdd, Nat.reduceEqDiff, Nat.reduceLT, Nat.reduceLeDiff, Nat.reduceMul, Nat.reduceSub, reduceCtorEq, tbAGf0, Try.results14, g4, gr, g1, g5, g13, g14, g15, gb, h7, hx', wrap_succ hi (Nat.le_trans hl (by decide))]
        refine ⟨_, _, List.Sublist.cons _ (List.Sublist.refl _), List.Sublist.refl _, y, ?_⟩
        simp only [↓ruleA0, ↓ruleA1, ↓ruleA2, ruleB0, ruleB1, ruleB2, ruleB3, ruleL, ↓retK, ncall, Todo_eq, packV, eqTB, litB, litV, fitL, fit, veqL, veq, sbin, sun, nilB, cellsV, oneB, okC, vals, fillV, partsE, Int.reduceLE, Int.reduceLT, Int.reduceToNat, Nat.reduceAdd, Nat.reduceEqDiff, Nat.reduceLT, Nat.reduceLeDiff, Nat.reduceMul, Nat.reduceSub, reduceCtorEq, tbAGf0, Try.results14, g4, gr, g1, g5, g13, g14, g15, gb, h7, hx', wrap_succ hi (Nat.le_trans hl (by decide))]
        rw [htk, if_neg hx, List.append_nil]
    · simp only [↓ruleA0, ↓ruleA1, ↓ruleA2, ruleB0, ruleB1, ruleB2, ruleB3, ruleL, ↓retK, ncall, Todo_eq, packV, eqTB, litB, litV, fitL, fit, veqL, veq, sbin, sun, nilB, cellsV, oneB, okC, vals, fillV, partsE, Int.reduceLE, Int.reduceLT, Int.reduceToNat, Nat.reduceAdd, Nat.reduceEqDiff, Nat.reduceLT, Nat.reduceLeDiff, Nat.reduceMul, Nat.reduceSub, reduceCtorEq, tbAGf0, Try.results14, g4, gr, g1, g5, g13, g14, g15, gb, Int.ofNat_lt, Nat.lt_irrefl, List.length_map]
      rw [List.take_of_length_le (Nat.le_refl _)]
      exact ⟨_, [], [_], Le.refl _, List.nil_sublist _, List.Sublist.refl _, rfl, .inr ⟨by simpa using hc, y, rfl, rfl⟩⟩
end Go.Proofs.Ytopfanlkbepemaa

/- Arrangements: contracts, part k: the index of groups. -/
set_option linter.unusedSimpArgs false
set_option maxRecDepth 100000
namespace Go.Proofs.Ytopfanlkbepemaa
open Go.VL Go.Ar Go.Proofs.Ytopfanlkbepemaa
-- @call 58

abbrev keyFn : V := .lit (.func (.func 58) #[] #[])
set_option linter.defProp false in
def tbAGg0 := (And.intro (And.intro (And.intro (And.intro (And.intro (And.intro Ty.sz3 Ty.by3) (And.intro Ty.ag3 Ty.zr3)) (And.intro (And.intro Ty.un3 Ty.sz9) (And.intro Ty.by9 (And.intro Ty.ag9 Ty.zr9)))) (And.intro (And.intro (And.intro Ty.un9 Ty.sz41) (And.intro Ty.by41 (And.intro Ty.ag41 Ty.zr41))) (And.intro (And.intro Ty.un41 Ty.sz53) (And.intro Ty.by53 (And.intro Ty.ag53 Ty.zr53))))) (And.intro (And.intro (And.intro (And.intro Ty.fl53_0 Ty.pl53_0) (And.intro Ty.fl53_1 (And.intro Ty.pl53_1 Ty.sz54))) (And.intro (And.intro Ty.by54 Ty.ag54) (And.intro Ty.zr54 (And.intro Ty.un54 Ty.sz56)))) (And.intro (And.intro (And.intro Ty.by56 Ty.ag56) (And.intro Ty.zr56 (And.intro Ty.fl56_0 Ty.pl56_0))) (And.intro (And.intro Ty.fl56_1 Ty.pl56_1) (And.intro Ty.fl56_2 (And.intro Ty.pl56_2 Ty.fl56_3)))))) (And.intro (And.intro (And.intro (And.intro (And.intro Ty.pl56_3 Ty.fl56_4) (And.intro Ty.pl56_4 Ty.fl56_5)) (And.intro (And.intro Ty.pl56_5 Ty.fl56_6) (And.intro Ty.pl56_6 (And.intro Ty.sz61 Ty.by61)))) (And.intro (And.intro (And.intro Ty.ag61 Ty.zr61) (And.intro Ty.fl61_0 (And.intro Ty.pl61_0 Ty.fl61_1))) (And.intro (And.intro Ty.pl61_1 Ty.fl61_2) (And.intro Ty.pl61_2 (And.intro Ty.sz65 Ty.by65))))) (And.intro (And.intro (And.intro (And.intro Ty.ag65 Ty.zr65) (And.intro Ty.fl65_0 (And.intro Ty.pl65_0 Ty.fl65_1))) (And.intro (And.intro Ty.pl65_1 Ty.sz109) (And.intro Ty.by109 (And.intro Ty.ag109 Ty.zr109)))) (And.intro (And.intro (And.intro Ty.fl109_0 Ty.pl109_0) (And.intro Ty.fl109_1 (And.intro Ty.pl109_1 Ty.fl109_2))) (And.intro (And.intro Ty.pl109_2 Ty.eq53) (And.intro Ty.eq109 (And.intro Ty.cb58 Ty.cb60)))))))
theorem groupKey_ok (k : Str) (own : Option Value) (es : List (List V)) : OkP Try.prog 58 [.agg [vstr k, .list own 10 es]] (vstr k) := by
  refine Ok.of_ex Ty.mixed Try.func58 rfl (by simp [Try.ntmps58]) (by kernel_rfl) fun F w0 I0 => ?_
  simp only [↓ruleA0, ↓ruleA1, ↓ruleA2, ruleB0, ruleB1, ruleB2, ruleB3, ruleL, ↓retK, ncall, Todo_eq, packV, eqTB, litB, litV, fitL, fit, veqL, veq, sbin, sun, nilB, cellsV, oneB, okC, vals, fillV, partsE, Int.reduceLE, Int.reduceLT, Int.reduceToNat, Nat.reduceAdd, Nat.reduceEqDiff, Nat.reduceLT, Nat.reduceLeDiff, Nat.reduceMul, Nat.reduceSub, reduceCtorEq, tbAGg0, Try.results58]
  refine fun b1 h1 => ?_; replace h1 := newb h1; try simp only [Nb] at h1
  simp only [↓ruleA0, ↓ruleA1, ↓ruleA2, ruleB0, ruleB1, ruleB2, ruleB3, ruleL, ↓retK, ncall, Todo_eq, packV, eqTB, litB, litV, fitL, fit, veqL, veq, sbin, sun, nilB, cellsV, oneB, okC, vals, fillV, partsE, Int.reduceLE, Int.reduceLT, Int.reduceToNat, Nat.reduceAdd, Nat.reduceEqDiff, Nat.reduceLT, Nat.reduceLeDiff, Nat.reduceMul, Nat.reduceSub, reduceCtorEq, tbAGg0, Try.results58]
  exact ret_done rfl
set_option linter.defProp false in
def tbAGg1 := (And.intro (And.intro (And.intro (And.intro (And.intro (And.intro Ty.sz3 (And.intro Ty.by3 Ty.ag3)) (And.intro Ty.zr3 (And.intro Ty.un3 Ty.sz9))) (And.intro (And.intro Ty.by9 (And.intro Ty.ag9 Ty.zr9)) (And.intro Ty.un9 (And.intro Ty.sz22 Ty.by22)))) (And.intro (And.intro (And.intro Ty.ag22 (And.intro Ty.zr22 Ty.un22)) (And.intro Ty.sz41 (And.intro Ty.by41 Ty.ag41))) (And.intro (And.intro Ty.zr41 (And.intro Ty.un41 Ty.sz53)) (And.intro (And.intro Ty.by53 Ty.ag53) (And.intro Ty.zr53 Ty.fl53_0))))) (And.intro (And.intro (And.intro (And.intro Ty.pl53_0 (And.intro Ty.fl53_1 Ty.pl53_1)) (And.intro Ty.sz54 (And.intro Ty.by54 Ty.ag54))) (And.intro (And.intro Ty.zr54 (And.intro Ty.un54 Ty.sz56)) (And.intro Ty.by56 (And.intro Ty.ag56 Ty.zr56)))) (And.intro (And.intro (And.intro Ty.fl56_0 (And.intro Ty.pl56_0 Ty.fl56_1)) (And.intro Ty.pl56_1 (And.intro Ty.fl56_2 Ty.pl56_2))) (And.intro (And.intro Ty.fl56_3 (And.intro Ty.pl56_3 Ty.fl56_4)) (And.intro (And.intro Ty.pl56_4 Ty.fl56_5) (And.intro Ty.pl56_5 Ty.fl56_6)))))) (And.intro (And.intro (And.intro (And.intro (And.intro Ty.pl56_6 (And.intro Ty.sz61 Ty.by61)) (And.intro Ty.ag61 (And.intro Ty.zr61 Ty.fl61_0))) (And.intro (And.intro Ty.pl61_0 (And.intro Ty.fl61_1 Ty.pl61_1)) (And.intro Ty.fl61_2 (And.intro Ty.pl61_2 Ty.sz65)))) (And.intro (And.intro (And.intro Ty.by65 (And.intro Ty.ag65 Ty.zr65)) (And.intro Ty.fl65_0 (And.intro Ty.pl65_0 Ty.fl65_1))) (And.intro (And.intro Ty.pl65_1 (And.intro Ty.sz68 Ty.by68)) (And.intro (And.intro Ty.ag68 Ty.zr68) (And.intro Ty.un68 Ty.sz73))))) (And.intro (And.intro (And.intro (And.intro Ty.by73 (And.intro Ty.ag73 Ty.zr73)) (And.intro Ty.sz75 (And.intro Ty.by75 Ty.ag75))) (And.intro (And.intro Ty.zr75 (And.intro Ty.fl75_0 Ty.pl75_0)) (And.intro (And.intro Ty.fl75_1 Ty.pl75_1) (And.intro Ty.sz109 Ty.by109)))) (And.intro (And.intro (And.intro Ty.ag109 (And.intro Ty.zr109 Ty.fl109_0)) (And.intro Ty.pl109_0 (And.intro Ty.fl109_1 Ty.pl109_1))) (And.intro (And.intro Ty.fl109_2 (And.intro Ty.pl109_2 Ty.eq53)) (And.intro (And.intro Ty.eq109 Ty.cb50) (And.intro Ty.cb58 Ty.cb60)))))))
theorem placeF_ok (k key : Str) (own : Option Value) (es : List (List V)) (bi bp : Nat) (sl : V) (hne : bi ≠ bp) : Ok Try.prog 60 [.agg [vstr k, .list own 10 es], vstr key, ptr bp] [(bp, .c [ptr bi]), (bi, .c [sl, keyFn])] fun v bs rs => v = vint (cmpS k key) ∧ bs = [(bp, .c [ptr bi]), (bi, .c [sl, keyFn])] ∧ rs = [] := by
  refine Ok.of_ex Ty.mixed Try.func60 rfl (by simp [Try.ntmps60]) (by kernel_rfl) fun F w0 I0 => ?_
  simp only [↓ruleA0, ↓ruleA1, ↓ruleA2, ruleB0, ruleB1, ruleB2, ruleB3, ruleL, ↓retK, ncall, Todo_eq, packV, eqTB, litB, litV, fitL, fit, veqL, veq, sbin, sun, nilB, cellsV, oneB, okC, vals, fillV, partsE, Int.reduceLE, Int.reduceLT, Int.reduceToNat, Nat.reduceAdd, Nat.reduceEqDiff, Nat.reduceLT, Nat.reduceLeDiff, Nat.reduceMul, Nat.reduceSub, reduceCtorEq, tbAGg1, Try.results60]
  refine fun b3 h3 => ?_; replace h3 := newb h3; try simp only [Nb] at h3
  simp only [↓ruleA0, ↓ruleA1, ↓ruleA2, ruleB0, ruleB1, ruleB2, ruleB3, ruleL, ↓retK, ncall, Todo_eq, packV, eqTB, litB, litV, fitL, fit, veqL, veq, sbin, sun, nilB, cellsV, oneB, okC, vals, fillV, partsE, Int.reduceLE, Int.reduceLT, Int.reduceToNat, Nat.reduceAdd, Nat.reduceEqDiff, Nat.reduceLT, Nat.reduceLeDiff, Nat.reduceMul, Nat.reduceSub, reduceCtorEq, tbAGg1, Try.results60, h3, hne]
  refine CallV_of _ (groupKey_ok k own es).v ?_
  simp only [↓ruleA0, ↓ruleA1, ↓ruleA2, ruleB0, ruleB1, ruleB2, ruleB3, ruleL, ↓retK, ncall, Todo_eq, packV, eqTB, litB, litV, fitL, fit, veqL, veq, sbin, sun, nilB, cellsV, oneB, okC, vals, fillV, partsE, Int.reduceLE, Int.reduceLT, Int.reduceToNat, Nat.reduceAdd, Nat.reduceEqDiff, Nat.reduceLT, Nat.reduceLeDiff, Nat.reduceMul, Nat.reduceSub, reduceCtorEq, tbAGg1, Try.results60, h3, hne]
  refine CallV_of _ (cmpS_ok k key).v ?_
  simp only [↓ruleA0, ↓ruleA1, ↓ruleA2, ruleB0, ruleB1, ruleB2, ruleB3, ruleL, ↓retK, ncall, Todo_eq, packV, eqTB, litB, litV, fitL, fit, veqL, veq, sbin, sun, nilB, cellsV, oneB, okC, vals, fillV, partsE, Int.reduceLE, Int.reduceLT, Int.reduceToNat, Nat.reduceAdd, Nat.reduceEqDiff, Nat.reduceLT, Nat.reduceLeDiff, Nat.reduceMul, Nat.reduceSub, reduceCtorEq, tbAGg1, Try.results60, h3, hne]
  exact ⟨_, [_, _], [], Le.refl _, List.Sublist.cons _ (List.Sublist.refl _), List.nil_sublist _, rfl, rfl, rfl⟩

/-- A group under way: its key, its deltas' row. -/
abbrev GI := Str × Value × List Dlt
abbrev cGI (p : GI) : List V := [vstr p.1, .list (some p.2.1) 10 (p.2.2.map cDlt)]
theorem cellsG_len (l : List GI) : (l.map cGI).flatten.length = l.length * 2 := by
  induction l with
  | nil => rfl
  | cons x l ih => simp only [List.map_cons, List.flatten_cons, List.length_append, ih, List.length_cons, List.length_nil]; omega
theorem cellG_at (l : List GI) (rest : List V) (i : Nat) (hi : i < l.length) : (((l.map cGI).flatten ++ rest).drop (i * 2)).take 2 = cGI l[i] := cut_block (c := cGI) (fun _ => rfl) l rest i hi
-- @call 60
abbrev placeFn (bp : Nat) : V := .lit (.func (.func 60) #[] #[.pointer (some ⟨bp, 0, none⟩)])
def Sorted (l : List GI) : Prop := l.Pairwise fun a b => less a.1 b.1 = true
theorem less_cmp (a b : Str) : less a b = true ↔ cmpS a b < 0 := by
  constructor
  · intro h; rw [cmpS_lt h]; decide
  · intro h
    cases hl : less a b
    · by_cases e : a = b
      · rw [e, cmpS_refl] at h; exact absurd h (by decide)
      · rw [cmpS_gt hl e] at h; exact absurd h (by decide)
    · rfl
theorem less_trans {a b c : Str} (h : less a b = true) (h' : less b c = true) : less a c = true := (less_cmp a c).2 (pre_cmpS.lt_trans ((less_cmp a b).1 h) ((less_cmp b c).1 h'))
theorem mid_eq {i k : Nat} (hi : i ≤ k) (hk : k ≤ 4194304) : IntKind.i64.wrap ((IntKind.u64.wrap (IntKind.i64.wrap ((i : Int) + (k : Int)))).fdiv (2 ^ min 1 IntKind.u64.bits)) = (((i + k) / 2 : Nat) : Int) := by
  have e1 : IntKind.i64.wrap ((i : Int) + (k : Int)) = (i : Int) + k := wrap_id (by omega) (by omega)
  have e2 : IntKind.u64.wrap ((i : Int) + (k : Int)) = (i : Int) + k := by
    simp only [IntKind.wrap, IntKind.signed, IntKind.bits, Bool.false_and, Bool.false_eq_true, if_false]
    omega
  rw [e1, e2, show min 1 IntKind.u64.bits = 1 from rfl, Int.fdiv_eq_ediv_of_nonneg _ (by decide), wrap_id (by omega) (by omega)]
  omega
set_option linter.defProp false in
def tbAGg2 := (And.intro (And.intro (And.intro (And.intro (And.intro (And.intro Ty.sz3 (And.intro Ty.by3 Ty.ag3)) (And.intro Ty.zr3 (And.intro Ty.un3 Ty.sz4))) (And.intro (And.intro Ty.by4 (And.intro Ty.ag4 Ty.zr4)) (And.intro Ty.un4 (And.intro Ty.sz9 Ty.by9)))) (And.intro (And.intro (And.intro Ty.ag9 (And.intro Ty.zr9 Ty.un9)) (And.intro Ty.sz22 (And.intro Ty.by22 Ty.ag22))) (And.intro (And.intro Ty.zr22 (And.intro Ty.un22 Ty.sz41)) (And.intro Ty.by41 (And.intro Ty.ag41 Ty.zr41))))) (And.intro (And.intro (And.intro (And.intro Ty.un41 (And.intro Ty.sz53 Ty.by53)) (And.intro Ty.ag53 (And.intro Ty.zr53 Ty.fl53_0))) (And.intro (And.intro Ty.pl53_0 (And.intro Ty.fl53_1 Ty.pl53_1)) (And.intro Ty.sz54 (And.intro Ty.by54 Ty.ag54)))) (And.intro (And.intro (And.intro Ty.zr54 (And.intro Ty.un54 Ty.sz56)) (And.intro Ty.by56 (And.intro Ty.ag56 Ty.zr56))) (And.intro (And.intro Ty.fl56_0 (And.intro Ty.pl56_0 Ty.fl56_1)) (And.intro Ty.pl56_1 (And.intro Ty.fl56_2 Ty.pl56_2)))))) (And.intro (And.intro (And.intro (And.intro (And.intro Ty.fl56_3 (And.intro Ty.pl56_3 Ty.fl56_4)) (And.intro Ty.pl56_4 (And.intro Ty.fl56_5 Ty.pl56_5))) (And.intro (And.intro Ty.fl56_6 (And.intro Ty.pl56_6 Ty.sz61)) (And.intro Ty.by61 (And.intro Ty.ag61 Ty.zr61)))) (And.intro (And.intro (And.intro Ty.fl61_0 (And.intro Ty.pl61_0 Ty.fl61_1)) (And.intro Ty.pl61_1 (And.intro Ty.fl61_2 Ty.pl61_2))) (And.intro (And.intro Ty.sz65 (And.intro Ty.by65 Ty.ag65)) (And.intro Ty.zr65 (And.intro Ty.fl65_0 Ty.pl65_0))))) (And.intro (And.intro (And.intro (And.intro Ty.fl65_1 (And.intro Ty.pl65_1 Ty.sz90)) (And.intro Ty.by90 (And.intro Ty.ag90 Ty.zr90))) (And.intro (And.intro Ty.sz109 (And.intro Ty.by109 Ty.ag109)) (And.intro Ty.zr109 (And.intro Ty.fl109_0 Ty.pl109_0)))) (And.intro (And.intro (And.intro Ty.fl109_1 (And.intro Ty.pl109_1 Ty.fl109_2)) (And.intro Ty.pl109_2 (And.intro Ty.sz112 Ty.by112))) (And.intro (And.intro Ty.ag112 (And.intro Ty.zr112 Ty.un112)) (And.intro (And.intro Ty.eq53 Ty.eq109) (And.intro Ty.cb58 Ty.cb60)))))))
theorem bsearch_ok (l : List GI) (key : Str) (rest : List V) (ba c bi bp : Nat) (sl : V) (hl : l.length ≤ big) (hs : Sorted l) (h1 : bi ≠ bp) (h2 : ba ≠ bp) (h3 : ba ≠ bi) :
    Ok Try.prog 59 [.lit (.slice (some ⟨ba, 0, none⟩) l.length c), vstr key, placeFn bp] [(bp, .c [ptr bi]), (bi, .c [sl, keyFn]), (ba, .c ((l.map cGI).flatten ++ rest))] fun v bs rs =>
      bs = [(bp, .c [ptr bi]), (bi, .c [sl, keyFn]), (ba, .c ((l.map cGI).flatten ++ rest))] ∧ rs = [] ∧ ∃ i, i ≤ l.length ∧ (∀ j, (h : j < l.length) → (j < i ↔ less l[j].1 key = true)) ∧ v = .tup [vint i, vbool (decide (l[i]?.map (·.1) = some key))] := by
  refine Ok.of_ex Ty.mixed Try.func59 rfl (by simp [Try.ntmps59]) (by kernel_rfl) fun F w0 I0 => ?_
  unfold big at hl
  simp only [↓ruleA0, ↓ruleA1, ↓ruleA2, ruleB0, ruleB1, ruleB2, ruleB3, ruleL, ↓retK, ncall, Todo_eq, packV, eqTB, litB, litV, fitL, fit, veqL, veq, sbin, sun, nilB, cellsV, oneB, okC, vals, fillV, partsE, Int.reduceLE, Int.reduceLT, Int.reduceToNat, Nat.reduceAdd, Nat.reduceEqDiff, Nat.reduceLT, Nat.reduceLeDiff, Nat.reduceMul, Nat.reduceSub, reduceCtorEq, tbAGg2, Try.results59]
  refine EX_while Ty.mixed (by kernel_rfl) (fun x => x.2 - x.1) (fun (x : Nat × Nat) S => (x.1 ≤ x.2 ∧ x.2 ≤ l.length ∧ (∀ j, (h : j < l.length) → j < x.1 → less l[j].1 key = true) ∧ ∀ j, (h : j < l.length) → x.2 ≤ j → less l[j].1 key = false) ∧ S.σ 0 = .lit (.slice (some ⟨ba, 0, none⟩) l.length c) ∧ S.σ 1 = vstr key ∧ S.σ 2 = placeFn bp ∧ S.σ 8 = vint l.length ∧ S.σ 9 = vint x.1 ∧ S.σ 10 = vint x.2 ∧ S.rows = [] ∧ S.boxes = [(bp, .c [ptr bi]), (bi, .c [sl, keyFn]), (ba, .c ((l.map cGI).flatten ++ rest))]) (0, l.length) ⟨0, ⟨Nat.zero_le _, Nat.le_refl _, fun j h h' => by omega, fun j h h' => by omega⟩, ?_⟩ (fun ⟨i, k⟩ S ⟨⟨hik, hk, hlo, hhi⟩, g0, g1, g2, g8, g9, g10, gr, gb⟩ => ?_)
  · simp only [↓ruleA0, ↓ruleA1, ↓ruleA2, ruleB0, ruleB1, ruleB2, ruleB3, ruleL, ↓retK, ncall, Todo_eq, packV, eqTB, litB, litV, fitL, fit, veqL, veq, sbin, sun, nilB, cellsV, oneB, okC, vals, fillV, partsE, Int.reduceLE, Int.reduceLT, Int.reduceToNat, Nat.reduceAdd, Nat.reduceEqDiff, Nat.reduceLT, Nat.reduceLeDiff, Nat.reduceMul, Nat.reduceSub, reduceCtorEq, tbAGg2, Try.results59]
  · simp only at hik hk hlo hhi g9 g10
    by_cases hlt : i < k
    · simp only [↓ruleA0, ↓ruleA1, ↓ruleA2, ruleB0, ruleB1, ruleB2, ruleB3, ruleL, ↓retK, ncall, Todo_eq, packV, eqTB, litB, litV, fitL, fit, veqL, veq, sbin, sun, nilB, cellsV, oneB, okC, vals, fillV, partsE, Int.reduceLE, Int.reduceLT, Int.reduceToNat, Nat.reduceAdd, Nat.reduceEqDiff, Nat.reduceLT, Nat.reduceLeDiff, Nat.reduceMul, Nat.reduceSub, reduceCtorEq, tbAGg2, Try.results59, g0, g1, g2, g8, g9, g10, gr, gb, h1, h2, h3, Int.ofNat_lt, hlt]
      have hm := mid_eq hik (show k ≤ 4194304 by omega)
      generalize hmd : (i + k) / 2 = m at hm
      have hml : m < l.length := by omega
      have hdl : 2 ≤ (((l.map cGI).flatten ++ rest).drop (m * 2)).length := by rw [List.length_drop, List.length_append, cellsG_len]; omega
      rw [hm, Int.toNat_natCast]
      refine ⟨by omega, by omega, hdl, ?_⟩
      rw [cellG_at l rest m hml]
      refine OkF_with [_, _] [_] (List.Perm.refl _) (placeF_ok l[m].1 key _ _ bi bp sl h1) ?_
      rintro v bs rs ⟨rfl, rfl, rfl⟩
      cases hc : less l[m].1 key
      · have hc' : ¬ cmpS l[m].1 key < 0 := fun h => by rw [(less_cmp _ _).2 h] at hc; cases hc
        simp only [↓ruleA0, ↓ruleA1, ↓ruleA2, ruleB0, ruleB1, ruleB2, ruleB3, ruleL, ↓retK, ncall, Todo_eq, packV, eqTB, litB, litV, fitL, fit, veqL, veq, sbin, sun, nilB, cellsV, oneB, okC, vals, fillV, partsE, Int.reduceLE, Int.reduceLT, Int.reduceToNat, Nat.reduceAdd, Nat.reduceEqDiff, Nat.reduceLT, Nat.reduceLeDiff, Nat.reduceMul, Nat.reduceSub, reduceCtorEq, tbAGg2, Try.results59, g0, g1, g2, g8, g9, g10, gr, gb, h1, h2, h3, hc', hm]
        refine ⟨(i, m), by simp only; omega, 0, ⟨by omega, by omega, hlo, fun j h hj => ?_⟩, rfl, rfl, rfl⟩
        rcases Nat.lt_or_ge m j with h' | h'
        · have hmj := (List.pairwise_iff_getElem.1 hs) m j hml h h'
          cases hjc : less l[j].1 key
          · rfl
          · rw [less_trans hmj hjc] at hc; cases hc
        · obtain rfl : j = m := by simp only at hj; omega
          exact hc
      · have hc' : cmpS l[m].1 key < 0 := (less_cmp _ _).1 hc
        simp only [↓ruleA0, ↓ruleA1, ↓ruleA2, ruleB0, ruleB1, ruleB2, ruleB3, ruleL, ↓retK, ncall, Todo_eq, packV, eqTB, litB, litV, fitL, fit, veqL, veq, sbin, sun, nilB, cellsV, oneB, okC, vals, fillV, partsE, Int.reduceLE, Int.reduceLT, Int.reduceToNat, Nat.reduceAdd, Nat.reduceEqDiff, Nat.reduceLT, Nat.reduceLeDiff, Nat.reduceMul, Nat.reduceSub, reduceCtorEq, tbAGg2, Try.results59, g0, g1, g2, g8, g9, g10, gr, gb, h1, h2, h3, hc', hm, wrap_succ hml (show l.length ≤ 9223372036854775807 by omega)]
        refine ⟨(m + 1, k), by simp only; omega, 0, ⟨by omega, by omega, fun j h hj => ?_, hhi⟩, rfl, rfl, rfl⟩
        rcases Nat.lt_or_ge j m with h' | h'
        · exact less_trans ((List.pairwise_iff_getElem.1 hs) j m h hml h') hc
        · obtain rfl : j = m := by simp only at hj; omega
          exact hc
    · simp only [↓ruleA0, ↓ruleA1, ↓ruleA2, ruleB0, ruleB1, ruleB2, ruleB3, ruleL, ↓retK, ncall, Todo_eq, packV, eqTB, litB, litV, fitL, fit, veqL, veq, sbin, sun, nilB, cellsV, oneB, okC, vals, fillV, partsE, Int.reduceLE, Int.reduceLT, Int.reduceToNat, Nat.reduceAdd, Nat.reduceEqDiff, Nat.reduceLT, Nat.reduceLeDiff, Nat.reduceMul, Nat.reduceSub, reduceCtorEq, tbAGg2, Try.results59, g0, g1, g2, g8, g9, g10, gr, gb, h1, h2, h3, Int.ofNat_lt, hlt]
      obtain rfl : i = k := by omega
      have hspec : ∀ j, (h : j < l.length) → (j < i ↔ less l[j].1 key = true) := fun j h => by
        constructor
        · exact hlo j h
        · intro hj
          rcases Nat.lt_or_ge j i with h' | h'
          · exact h'
          · rw [hhi j h h'] at hj; cases hj
      by_cases hil : i < l.length
      · simp only [↓ruleA0, ↓ruleA1, ↓ruleA2, ruleB0, ruleB1, ruleB2, ruleB3, ruleL, ↓retK, ncall, Todo_eq, packV, eqTB, litB, litV, fitL, fit, veqL, veq, sbin, sun, nilB, cellsV, oneB, okC, vals, fillV, partsE, Int.reduceLE, Int.reduceLT, Int.reduceToNat, Nat.reduceAdd, Nat.reduceEqDiff, Nat.reduceLT, Nat.reduceLeDiff, Nat.reduceMul, Nat.reduceSub, reduceCtorEq, tbAGg2, Try.results59, g0, g1, g2, g8, g9, g10, gr, gb, h1, h2, h3, hil, Int.ofNat_lt]
        have hdl : 2 ≤ (((l.map cGI).flatten ++ rest).drop (i * 2)).length := by rw [List.length_drop, List.length_append, cellsG_len]; omega
        refine ⟨hdl, ?_⟩
        rw [cellG_at l rest i hil]
        refine OkF_with [_, _] [_] (List.Perm.refl _) (placeF_ok l[i].1 key _ _ bi bp sl h1) ?_
        rintro v bs rs ⟨rfl, rfl, rfl⟩
        simp only [↓ruleA0, ↓ruleA1, ↓ruleA2, ruleB0, ruleB1, ruleB2, ruleB3, ruleL, ↓retK, ncall, Todo_eq, packV, eqTB, litB, litV, fitL, fit, veqL, veq, sbin, sun, nilB, cellsV, oneB, okC, vals, fillV, partsE, Int.reduceLE, Int.reduceLT, Int.reduceToNat, Nat.reduceAdd, Nat.reduceEqDiff, Nat.reduceLT, Nat.reduceLeDiff, Nat.reduceMul, Nat.reduceSub, reduceCtorEq, tbAGg2, Try.results59, g0, g1, g2, g8, g9, g10, gr, gb, h1, h2, h3, hil]
        refine ⟨_, [_, _, _], [], Le.refl _, List.Sublist.refl _, List.nil_sublist _, rfl, rfl, i, by omega, hspec, ?_⟩
        have : decide (l[i]?.map (·.1) = some key) = decide (cmpS l[i].1 key = 0) := by
          rw [List.getElem?_eq_getElem hil]
          refine decide_eq_decide.2 ?_
          simp [cmpS_eq0]
        rw [this]
      · simp only [↓ruleA0, ↓ruleA1, ↓ruleA2, ruleB0, ruleB1, ruleB2, ruleB3, ruleL, ↓retK, ncall, Todo_eq, packV, eqTB, litB, litV, fitL, fit, veqL, veq, sbin, sun, nilB, cellsV, oneB, okC, vals, fillV, partsE, Int.reduceLE, Int.reduceLT, Int.reduceToNat, Nat.reduceAdd, Nat.reduceEqDiff, Nat.reduceLT, Nat.reduceLeDiff, Nat.reduceMul, Nat.reduceSub, reduceCtorEq, tbAGg2, Try.results59, g0, g1, g2, g8, g9, g10, gr, gb, h1, h2, h3, hil]
        refine ⟨_, [_, _, _], [], Le.refl _, List.Sublist.refl _, List.nil_sublist _, rfl, rfl, i, by omega, hspec, ?_⟩
        rw [List.getElem?_eq_none (by omega)]
        rfl
end Go.Proofs.Ytopfanlkbepemaa

/- Arrangements: contracts, part l: places in the index. -/
set_option linter.unusedSimpArgs false
set_option maxRecDepth 100000
namespace Go.Proofs.Ytopfanlkbepemaa
open Go.VL Go.Ar Go.Proofs.Ytopfanlkbepemaa
-- @call 60

set_option linter.defProp false in
def tbAGh0 := (And.intro (And.intro (And.intro (And.intro (And.intro (And.intro Ty.sz3 (And.intro Ty.by3 Ty.ag3)) (And.intro Ty.zr3 (And.intro Ty.un3 Ty.sz4))) (And.intro (And.intro Ty.by4 (And.intro Ty.ag4 Ty.zr4)) (And.intro Ty.un4 (And.intro Ty.sz9 Ty.by9)))) (And.intro (And.intro (And.intro Ty.ag9 (And.intro Ty.zr9 Ty.un9)) (And.intro Ty.sz22 (And.intro Ty.by22 Ty.ag22))) (And.intro (And.intro Ty.zr22 (And.intro Ty.un22 Ty.sz41)) (And.intro Ty.by41 (And.intro Ty.ag41 Ty.zr41))))) (And.intro (And.intro (And.intro (And.intro Ty.un41 (And.intro Ty.sz53 Ty.by53)) (And.intro Ty.ag53 (And.intro Ty.zr53 Ty.fl53_0))) (And.intro (And.intro Ty.pl53_0 (And.intro Ty.fl53_1 Ty.pl53_1)) (And.intro Ty.sz54 (And.intro Ty.by54 Ty.ag54)))) (And.intro (And.intro (And.intro Ty.zr54 (And.intro Ty.un54 Ty.sz56)) (And.intro Ty.by56 (And.intro Ty.ag56 Ty.zr56))) (And.intro (And.intro Ty.fl56_0 (And.intro Ty.pl56_0 Ty.fl56_1)) (And.intro Ty.pl56_1 (And.intro Ty.fl56_2 Ty.pl56_2)))))) (And.intro (And.intro (And.intro (And.intro (And.intro Ty.fl56_3 (And.intro Ty.pl56_3 Ty.fl56_4)) (And.intro Ty.pl56_4 (And.intro Ty.fl56_5 Ty.pl56_5))) (And.intro (And.intro Ty.fl56_6 (And.intro Ty.pl56_6 Ty.sz61)) (And.intro Ty.by61 (And.intro Ty.ag61 Ty.zr61)))) (And.intro (And.intro (And.intro Ty.fl61_0 (And.intro Ty.pl61_0 Ty.fl61_1)) (And.intro Ty.pl61_1 (And.intro Ty.fl61_2 Ty.pl61_2))) (And.intro (And.intro Ty.sz65 (And.intro Ty.by65 Ty.ag65)) (And.intro Ty.zr65 (And.intro Ty.fl65_0 Ty.pl65_0))))) (And.intro (And.intro (And.intro (And.intro Ty.fl65_1 (And.intro Ty.pl65_1 Ty.sz90)) (And.intro Ty.by90 (And.intro Ty.ag90 Ty.zr90))) (And.intro (And.intro Ty.sz109 (And.intro Ty.by109 Ty.ag109)) (And.intro Ty.zr109 (And.intro Ty.fl109_0 Ty.pl109_0)))) (And.intro (And.intro (And.intro Ty.fl109_1 (And.intro Ty.pl109_1 Ty.fl109_2)) (And.intro Ty.pl109_2 (And.intro Ty.sz112 Ty.by112))) (And.intro (And.intro Ty.ag112 (And.intro Ty.zr112 Ty.un112)) (And.intro Ty.eq53 (And.intro Ty.eq109 Ty.cb60)))))))
theorem bsearchNil_ok (key : Str) (bp : Nat) : OkP Try.prog 59 [nilS, vstr key, placeFn bp] (.tup [vint 0, vbool false]) := by
  refine Ok.of_ex Ty.mixed Try.func59 rfl (by simp [Try.ntmps59]) (by kernel_rfl) fun F w0 I0 => ?_
  simp only [↓ruleA0, ↓ruleA1, ↓ruleA2, ruleB0, ruleB1, ruleB2, ruleB3, ruleL, ↓retK, ncall, Todo_eq, packV, eqTB, litB, litV, fitL, fit, veqL, veq, sbin, sun, nilB, cellsV, oneB, okC, vals, fillV, partsE, Int.reduceLE, Int.reduceLT, Int.reduceToNat, Nat.reduceAdd, Nat.reduceEqDiff, Nat.reduceLT, Nat.reduceLeDiff, Nat.reduceMul, Nat.reduceSub, reduceCtorEq, tbAGh0, Try.results59]
  refine EX_while Ty.mixed (by kernel_rfl) (fun _ => 0) (fun (_ : Unit) S => S.σ 8 = vint 0 ∧ S.σ 9 = vint 0 ∧ S.σ 10 = vint 0 ∧ S.rows = [] ∧ S.boxes = []) () ⟨0, ?_⟩ (fun _ S ⟨g8, g9, g10, gr, gb⟩ => ?_)
  · simp only [↓ruleA0, ↓ruleA1, ↓ruleA2, ruleB0, ruleB1, ruleB2, ruleB3, ruleL, ↓retK, ncall, Todo_eq, packV, eqTB, litB, litV, fitL, fit, veqL, veq, sbin, sun, nilB, cellsV, oneB, okC, vals, fillV, partsE, Int.reduceLE, Int.reduceLT, Int.reduceToNat, Nat.reduceAdd, Nat.reduceEqDiff, Nat.reduceLT, Nat.reduceLeDiff, Nat.reduceMul, Nat.reduceSub, reduceCtorEq, tbAGh0, Try.results59]
    try exact ⟨rfl, rfl, rfl, rfl, rfl⟩
  · simp only [↓ruleA0, ↓ruleA1, ↓ruleA2, ruleB0, ruleB1, ruleB2, ruleB3, ruleL, ↓retK, ncall, Todo_eq, packV, eqTB, litB, litV, fitL, fit, veqL, veq, sbin, sun, nilB, cellsV, oneB, okC, vals, fillV, partsE, Int.reduceLE, Int.reduceLT, Int.reduceToNat, Nat.reduceAdd, Nat.reduceEqDiff, Nat.reduceLT, Nat.reduceLeDiff, Nat.reduceMul, Nat.reduceSub, reduceCtorEq, tbAGh0, Try.results59, g8, g9, g10, gr, gb, Int.lt_irrefl]
    exact ret_done rfl
set_option linter.defProp false in
def tbAGh1 := (And.intro (And.intro (And.intro (And.intro (And.intro (And.intro Ty.sz3 (And.intro Ty.by3 Ty.ag3)) (And.intro (And.intro Ty.zr3 Ty.un3) (And.intro Ty.sz4 Ty.by4))) (And.intro (And.intro Ty.ag4 (And.intro Ty.zr4 Ty.un4)) (And.intro (And.intro Ty.sz9 Ty.by9) (And.intro Ty.ag9 Ty.zr9)))) (And.intro (And.intro (And.intro Ty.un9 (And.intro Ty.sz22 Ty.by22)) (And.intro (And.intro Ty.ag22 Ty.zr22) (And.intro Ty.un22 Ty.sz41))) (And.intro (And.intro Ty.by41 (And.intro Ty.ag41 Ty.zr41)) (And.intro (And.intro Ty.un41 Ty.sz53) (And.intro Ty.by53 Ty.ag53))))) (And.intro (And.intro (And.intro (And.intro Ty.zr53 (And.intro Ty.fl53_0 Ty.pl53_0)) (And.intro (And.intro Ty.fl53_1 Ty.pl53_1) (And.intro Ty.sz54 Ty.by54))) (And.intro (And.intro Ty.ag54 (And.intro Ty.zr54 Ty.un54)) (And.intro (And.intro Ty.sz56 Ty.by56) (And.intro Ty.ag56 Ty.zr56)))) (And.intro (And.intro (And.intro Ty.fl56_0 (And.intro Ty.pl56_0 Ty.fl56_1)) (And.intro (And.intro Ty.pl56_1 Ty.fl56_2) (And.intro Ty.pl56_2 Ty.fl56_3))) (And.intro (And.intro Ty.pl56_3 (And.intro Ty.fl56_4 Ty.pl56_4)) (And.intro (And.intro Ty.fl56_5 Ty.pl56_5) (And.intro Ty.fl56_6 Ty.pl56_6)))))) (And.intro (And.intro (And.intro (And.intro (And.intro Ty.sz61 (And.intro Ty.by61 Ty.ag61)) (And.intro (And.intro Ty.zr61 Ty.fl61_0) (And.intro Ty.pl61_0 Ty.fl61_1))) (And.intro (And.intro Ty.pl61_1 (And.intro Ty.fl61_2 Ty.pl61_2)) (And.intro (And.intro Ty.sz65 Ty.by65) (And.intro Ty.ag65 Ty.zr65)))) (And.intro (And.intro (And.intro Ty.fl65_0 (And.intro Ty.pl65_0 Ty.fl65_1)) (And.intro (And.intro Ty.pl65_1 Ty.sz68) (And.intro Ty.by68 Ty.ag68))) (And.intro (And.intro Ty.zr68 (And.intro Ty.un68 Ty.sz70)) (And.intro (And.intro Ty.by70 Ty.ag70) (And.intro Ty.sz73 Ty.by73))))) (And.intro (And.intro (And.intro (And.intro Ty.ag73 (And.intro Ty.zr73 Ty.sz75)) (And.intro (And.intro Ty.by75 Ty.ag75) (And.intro Ty.zr75 Ty.fl75_0))) (And.intro (And.intro Ty.pl75_0 (And.intro Ty.fl75_1 Ty.pl75_1)) (And.intro (And.intro Ty.sz90 Ty.by90) (And.intro Ty.ag90 Ty.zr90)))) (And.intro (And.intro (And.intro Ty.sz109 (And.intro Ty.by109 Ty.ag109)) (And.intro (And.intro Ty.zr109 Ty.fl109_0) (And.intro Ty.pl109_0 Ty.fl109_1))) (And.intro (And.intro Ty.pl109_1 (And.intro Ty.fl109_2 Ty.pl109_2)) (And.intro (And.intro Ty.eq53 Ty.eq109) (And.intro Ty.cb59 Ty.cb60)))))))
theorem placeNil_ok (key : Str) (bi : Nat) : Ok Try.prog 37 [ptr bi, vstr key] [(bi, .c [nilS, keyFn])] fun v bs rs => v = .tup [vint 0, vbool false] ∧ bs = [(bi, .c [nilS, keyFn])] ∧ rs = [] := by
  refine Ok.of_ex Ty.mixed Try.func37 rfl (by simp [Try.ntmps37]) (by kernel_rfl) fun F w0 I0 => ?_
  simp only [↓ruleA0, ↓ruleA1, ↓ruleA2, ruleB0, ruleB1, ruleB2, ruleB3, ruleL, ↓retK, ncall, Todo_eq, packV, eqTB, litB, litV, fitL, fit, veqL, veq, sbin, sun, nilB, cellsV, oneB, okC, vals, fillV, partsE, Int.reduceLE, Int.reduceLT, Int.reduceToNat, Nat.reduceAdd, Nat.reduceEqDiff, Nat.reduceLT, Nat.reduceLeDiff, Nat.reduceMul, Nat.reduceSub, reduceCtorEq, tbAGh1, Try.results37]
  refine fun bp hp => ?_; replace hp := newb hp; try simp only [Nb] at hp
  simp only [↓ruleA0, ↓ruleA1, ↓ruleA2, ruleB0, ruleB1, ruleB2, ruleB3, ruleL, ↓retK, ncall, Todo_eq, packV, eqTB, litB, litV, fitL, fit, veqL, veq, sbin, sun, nilB, cellsV, oneB, okC, vals, fillV, partsE, Int.reduceLE, Int.reduceLT, Int.reduceToNat, Nat.reduceAdd, Nat.reduceEqDiff, Nat.reduceLT, Nat.reduceLeDiff, Nat.reduceMul, Nat.reduceSub, reduceCtorEq, tbAGh1, Try.results37, hp]
  refine OkF_of _ (bsearchNil_ok key bp) ?_
  simp only [↓ruleA0, ↓ruleA1, ↓ruleA2, ruleB0, ruleB1, ruleB2, ruleB3, ruleL, ↓retK, ncall, Todo_eq, packV, eqTB, litB, litV, fitL, fit, veqL, veq, sbin, sun, nilB, cellsV, oneB, okC, vals, fillV, partsE, Int.reduceLE, Int.reduceLT, Int.reduceToNat, Nat.reduceAdd, Nat.reduceEqDiff, Nat.reduceLT, Nat.reduceLeDiff, Nat.reduceMul, Nat.reduceSub, reduceCtorEq, tbAGh1, Try.results37, hp]
  exact ⟨_, [_], [], Le.refl _, List.Sublist.cons _ (List.Sublist.refl _), List.nil_sublist _, rfl, rfl, rfl⟩
set_option linter.defProp false in
def tbAGh2 := (And.intro (And.intro (And.intro (And.intro (And.intro (And.intro Ty.sz3 (And.intro Ty.by3 Ty.ag3)) (And.intro (And.intro Ty.zr3 Ty.un3) (And.intro Ty.sz4 Ty.by4))) (And.intro (And.intro Ty.ag4 (And.intro Ty.zr4 Ty.un4)) (And.intro (And.intro Ty.sz9 Ty.by9) (And.intro Ty.ag9 Ty.zr9)))) (And.intro (And.intro (And.intro Ty.un9 (And.intro Ty.sz22 Ty.by22)) (And.intro (And.intro Ty.ag22 Ty.zr22) (And.intro Ty.un22 Ty.sz41))) (And.intro (And.intro Ty.by41 (And.intro Ty.ag41 Ty.zr41)) (And.intro (And.intro Ty.un41 Ty.sz53) (And.intro Ty.by53 Ty.ag53))))) (And.intro (And.intro (And.intro (And.intro Ty.zr53 (And.intro Ty.fl53_0 Ty.pl53_0)) (And.intro (And.intro Ty.fl53_1 Ty.pl53_1) (And.intro Ty.sz54 Ty.by54))) (And.intro (And.intro Ty.ag54 (And.intro Ty.zr54 Ty.un54)) (And.intro (And.intro Ty.sz56 Ty.by56) (And.intro Ty.ag56 Ty.zr56)))) (And.intro (And.intro (And.intro Ty.fl56_0 (And.intro Ty.pl56_0 Ty.fl56_1)) (And.intro (And.intro Ty.pl56_1 Ty.fl56_2) (And.intro Ty.pl56_2 Ty.fl56_3))) (And.intro (And.intro Ty.pl56_3 (And.intro Ty.fl56_4 Ty.pl56_4)) (And.intro (And.intro Ty.fl56_5 Ty.pl56_5) (And.intro Ty.fl56_6 Ty.pl56_6)))))) (And.intro (And.intro (And.intro (And.intro (And.intro Ty.sz61 (And.intro Ty.by61 Ty.ag61)) (And.intro (And.intro Ty.zr61 Ty.fl61_0) (And.intro Ty.pl61_0 Ty.fl61_1))) (And.intro (And.intro Ty.pl61_1 (And.intro Ty.fl61_2 Ty.pl61_2)) (And.intro (And.intro Ty.sz65 Ty.by65) (And.intro Ty.ag65 Ty.zr65)))) (And.intro (And.intro (And.intro Ty.fl65_0 (And.intro Ty.pl65_0 Ty.fl65_1)) (And.intro (And.intro Ty.pl65_1 Ty.sz68) (And.intro Ty.by68 Ty.ag68))) (And.intro (And.intro Ty.zr68 (And.intro Ty.un68 Ty.sz70)) (And.intro (And.intro Ty.by70 Ty.ag70) (And.intro Ty.sz73 Ty.by73))))) (And.intro (And.intro (And.intro (And.intro Ty.ag73 (And.intro Ty.zr73 Ty.sz75)) (And.intro (And.intro Ty.by75 Ty.ag75) (And.intro Ty.zr75 Ty.fl75_0))) (And.intro (And.intro Ty.pl75_0 (And.intro Ty.fl75_1 Ty.pl75_1)) (And.intro (And.intro Ty.sz90 Ty.by90) (And.intro Ty.ag90 Ty.zr90)))) (And.intro (And.intro (And.intro Ty.sz109 (And.intro Ty.by109 Ty.ag109)) (And.intro (And.intro Ty.zr109 Ty.fl109_0) (And.intro Ty.pl109_0 Ty.fl109_1))) (And.intro (And.intro Ty.pl109_1 (And.intro Ty.fl109_2 Ty.pl109_2)) (And.intro (And.intro Ty.eq53 Ty.eq109) (And.intro Ty.cb59 Ty.cb60)))))))
theorem place_ok (l : List GI) (key : Str) (rest : List V) (ba c bi : Nat) (hl : l.length ≤ big) (hs : Sorted l) (h3 : ba ≠ bi) :
    Ok Try.prog 37 [ptr bi, vstr key] [(bi, .c [.lit (.slice (some ⟨ba, 0, none⟩) l.length c), keyFn]), (ba, .c ((l.map cGI).flatten ++ rest))] fun v bs rs =>
      bs = [(bi, .c [.lit (.slice (some ⟨ba, 0, none⟩) l.length c), keyFn]), (ba, .c ((l.map cGI).flatten ++ rest))] ∧ rs = [] ∧ ∃ i, i ≤ l.length ∧ (∀ j, (h : j < l.length) → (j < i ↔ less l[j].1 key = true)) ∧ v = .tup [vint i, vbool (decide (l[i]?.map (·.1) = some key))] := by
  refine Ok.of_ex Ty.mixed Try.func37 rfl (by simp [Try.ntmps37]) (by kernel_rfl) fun F w0 I0 => ?_
  simp only [↓ruleA0, ↓ruleA1, ↓ruleA2, ruleB0, ruleB1, ruleB2, ruleB3, ruleL, ↓retK, ncall, Todo_eq, packV, eqTB, litB, litV, fitL, fit, veqL, veq, sbin, sun, nilB, cellsV, oneB, okC, vals, fillV, partsE, Int.reduceLE, Int.reduceLT, Int.reduceToNat, Nat.reduceAdd, Nat.reduceEqDiff, Nat.reduceLT, Nat.reduceLeDiff, Nat.reduceMul, Nat.reduceSub, reduceCtorEq, tbAGh2, Try.results37]
  refine fun bp hp => ?_; replace hp := newb hp; try simp only [Nb] at hp
  simp only [↓ruleA0, ↓ruleA1, ↓ruleA2, ruleB0, ruleB1, ruleB2, ruleB3, ruleL, ↓retK, ncall, Todo_eq, packV, eqTB, litB, litV, fitL, fit, veqL, veq, sbin, sun, nilB, cellsV, oneB, okC, vals, fillV, partsE, Int.reduceLE, Int.reduceLT, Int.reduceToNat, Nat.reduceAdd, Nat.reduceEqDiff, Nat.reduceLT, Nat.reduceLeDiff, Nat.reduceMul, Nat.reduceSub, reduceCtorEq, tbAGh2, Try.results37, hp, h3]
  refine OkF_with [_, _, _] [] (List.Perm.refl _) (bsearch_ok l key rest ba c bi bp _ hl hs hp.1.1 hp.2.1.1 h3) ?_
  rintro v bs rs ⟨rfl, rfl, i, hi, hj, rfl⟩
  simp only [↓ruleA0, ↓ruleA1, ↓ruleA2, ruleB0, ruleB1, ruleB2, ruleB3, ruleL, ↓retK, ncall, Todo_eq, packV, eqTB, litB, litV, fitL, fit, veqL, veq, sbin, sun, nilB, cellsV, oneB, okC, vals, fillV, partsE, Int.reduceLE, Int.reduceLT, Int.reduceToNat, Nat.reduceAdd, Nat.reduceEqDiff, Nat.reduceLT, Nat.reduceLeDiff, Nat.reduceMul, Nat.reduceSub, reduceCtorEq, tbAGh2, Try.results37, hp, h3]
  exact ⟨_, [_, _], [], Le.refl _, List.Sublist.cons _ (List.Sublist.refl _), List.nil_sublist _, rfl, rfl, i, hi, hj, rfl⟩
end Go.Proofs.Ytopfanlkbepemaa

/- Arrangements: contracts, part m: a fresh index. -/
set_option linter.unusedSimpArgs false
set_option maxRecDepth 100000
namespace Go.Proofs.Ytopfanlkbepemaa
open Go.VL Go.Ar Go.Proofs.Ytopfanlkbepemaa

set_option linter.defProp false in
def tbAGi0 := (And.intro (And.intro (And.intro (And.intro (And.intro (And.intro Ty.sz3 Ty.by3) (And.intro Ty.ag3 (And.intro Ty.zr3 Ty.un3))) (And.intro (And.intro Ty.sz4 Ty.by4) (And.intro Ty.ag4 (And.intro Ty.zr4 Ty.un4)))) (And.intro (And.intro (And.intro Ty.sz9 Ty.by9) (And.intro Ty.ag9 (And.intro Ty.zr9 Ty.un9))) (And.intro (And.intro Ty.sz22 (And.intro Ty.by22 Ty.ag22)) (And.intro Ty.zr22 (And.intro Ty.un22 Ty.sz41))))) (And.intro (And.intro (And.intro (And.intro Ty.by41 Ty.ag41) (And.intro Ty.zr41 (And.intro Ty.un41 Ty.sz53))) (And.intro (And.intro Ty.by53 (And.intro Ty.ag53 Ty.zr53)) (And.intro Ty.fl53_0 (And.intro Ty.pl53_0 Ty.fl53_1)))) (And.intro (And.intro (And.intro Ty.pl53_1 Ty.sz54) (And.intro Ty.by54 (And.intro Ty.ag54 Ty.zr54))) (And.intro (And.intro Ty.un54 (And.intro Ty.sz56 Ty.by56)) (And.intro Ty.ag56 (And.intro Ty.zr56 Ty.fl56_0)))))) (And.intro (And.intro (And.intro (And.intro (And.intro Ty.pl56_0 Ty.fl56_1) (And.intro Ty.pl56_1 (And.intro Ty.fl56_2 Ty.pl56_2))) (And.intro (And.intro Ty.fl56_3 Ty.pl56_3) (And.intro Ty.fl56_4 (And.intro Ty.pl56_4 Ty.fl56_5)))) (And.intro (And.intro (And.intro Ty.pl56_5 Ty.fl56_6) (And.intro Ty.pl56_6 (And.intro Ty.sz61 Ty.by61))) (And.intro (And.intro Ty.ag61 (And.intro Ty.zr61 Ty.fl61_0)) (And.intro Ty.pl61_0 (And.intro Ty.fl61_1 Ty.pl61_1))))) (And.intro (And.intro (And.intro (And.intro Ty.fl61_2 Ty.pl61_2) (And.intro Ty.sz65 (And.intro Ty.by65 Ty.ag65))) (And.intro (And.intro Ty.zr65 (And.intro Ty.fl65_0 Ty.pl65_0)) (And.intro Ty.fl65_1 (And.intro Ty.pl65_1 Ty.sz109)))) (And.intro (And.intro (And.intro Ty.by109 Ty.ag109) (And.intro Ty.zr109 (And.intro Ty.fl109_0 Ty.pl109_0))) (And.intro (And.intro Ty.fl109_1 (And.intro Ty.pl109_1 Ty.fl109_2)) (And.intro Ty.pl109_2 (And.intro Ty.eq53 Ty.eq109)))))))
theorem cloneNil_ok : OkP Try.prog 57 [nilS] nilS := by
  refine Ok.of_ex Ty.mixed Try.func57 rfl (by simp [Try.ntmps57]) (by kernel_rfl) fun F w0 I0 => ?_
  simp only [↓ruleA0, ↓ruleA1, ↓ruleA2, ruleB0, ruleB1, ruleB2, ruleB3, ruleL, ↓retK, ncall, Todo_eq, packV, eqTB, litB, litV, fitL, fit, veqL, veq, sbin, sun, nilB, cellsV, oneB, okC, vals, fillV, partsE, Int.reduceLE, Int.reduceLT, Int.reduceToNat, Nat.reduceAdd, Nat.reduceEqDiff, Nat.reduceLT, Nat.reduceLeDiff, Nat.reduceMul, Nat.reduceSub, reduceCtorEq, tbAGi0, Try.results57]
  exact ret_done rfl
set_option linter.defProp false in
def tbAGi1 := (And.intro (And.intro (And.intro (And.intro (And.intro (And.intro Ty.sz3 (And.intro Ty.by3 Ty.ag3)) (And.intro Ty.zr3 (And.intro Ty.un3 Ty.sz9))) (And.intro (And.intro Ty.by9 (And.intro Ty.ag9 Ty.zr9)) (And.intro Ty.un9 (And.intro Ty.sz22 Ty.by22)))) (And.intro (And.intro (And.intro Ty.ag22 (And.intro Ty.zr22 Ty.un22)) (And.intro Ty.sz41 (And.intro Ty.by41 Ty.ag41))) (And.intro (And.intro Ty.zr41 (And.intro Ty.un41 Ty.sz53)) (And.intro (And.intro Ty.by53 Ty.ag53) (And.intro Ty.zr53 Ty.fl53_0))))) (And.intro (And.intro (And.intro (And.intro Ty.pl53_0 (And.intro Ty.fl53_1 Ty.pl53_1)) (And.intro Ty.sz54 (And.intro Ty.by54 Ty.ag54))) (And.intro (And.intro Ty.zr54 (And.intro Ty.un54 Ty.sz56)) (And.intro Ty.by56 (And.intro Ty.ag56 Ty.zr56)))) (And.intro (And.intro (And.intro Ty.fl56_0 (And.intro Ty.pl56_0 Ty.fl56_1)) (And.intro Ty.pl56_1 (And.intro Ty.fl56_2 Ty.pl56_2))) (And.intro (And.intro Ty.fl56_3 (And.intro Ty.pl56_3 Ty.fl56_4)) (And.intro (And.intro Ty.pl56_4 Ty.fl56_5) (And.intro Ty.pl56_5 Ty.fl56_6)))))) (And.intro (And.intro (And.intro (And.intro (And.intro Ty.pl56_6 (And.intro Ty.sz61 Ty.by61)) (And.intro Ty.ag61 (And.intro Ty.zr61 Ty.fl61_0))) (And.intro (And.intro Ty.pl61_0 (And.intro Ty.fl61_1 Ty.pl61_1)) (And.intro Ty.fl61_2 (And.intro Ty.pl61_2 Ty.sz65)))) (And.intro (And.intro (And.intro Ty.by65 (And.intro Ty.ag65 Ty.zr65)) (And.intro Ty.fl65_0 (And.intro Ty.pl65_0 Ty.fl65_1))) (And.intro (And.intro Ty.pl65_1 (And.intro Ty.sz68 Ty.by68)) (And.intro (And.intro Ty.ag68 Ty.zr68) (And.intro Ty.un68 Ty.sz73))))) (And.intro (And.intro (And.intro (And.intro Ty.by73 (And.intro Ty.ag73 Ty.zr73)) (And.intro Ty.sz75 (And.intro Ty.by75 Ty.ag75))) (And.intro (And.intro Ty.zr75 (And.intro Ty.fl75_0 Ty.pl75_0)) (And.intro Ty.fl75_1 (And.intro Ty.pl75_1 Ty.sz109)))) (And.intro (And.intro (And.intro Ty.by109 (And.intro Ty.ag109 Ty.zr109)) (And.intro Ty.fl109_0 (And.intro Ty.pl109_0 Ty.fl109_1))) (And.intro (And.intro Ty.pl109_1 (And.intro Ty.fl109_2 Ty.pl109_2)) (And.intro (And.intro Ty.eq53 Ty.eq109) (And.intro Ty.cb57 Ty.cb58)))))))
theorem groupsNil_ok : Ok Try.prog 36 [nilS] [] fun v bs rs => rs = [] ∧ ∃ b, v = ptr b ∧ bs = [(b, .c [nilS, keyFn])] := by
  refine Ok.of_ex Ty.mixed Try.func36 rfl (by simp [Try.ntmps36]) (by kernel_rfl) fun F w0 I0 => ?_
  simp only [↓ruleA0, ↓ruleA1, ↓ruleA2, ruleB0, ruleB1, ruleB2, ruleB3, ruleL, ↓retK, ncall, Todo_eq, packV, eqTB, litB, litV, fitL, fit, veqL, veq, sbin, sun, nilB, cellsV, oneB, okC, vals, fillV, partsE, Int.reduceLE, Int.reduceLT, Int.reduceToNat, Nat.reduceAdd, Nat.reduceEqDiff, Nat.reduceLT, Nat.reduceLeDiff, Nat.reduceMul, Nat.reduceSub, reduceCtorEq, tbAGi1, Try.results36]
  refine OkF_of _ cloneNil_ok ?_
  simp only [↓ruleA0, ↓ruleA1, ↓ruleA2, ruleB0, ruleB1, ruleB2, ruleB3, ruleL, ↓retK, ncall, Todo_eq, packV, eqTB, litB, litV, fitL, fit, veqL, veq, sbin, sun, nilB, cellsV, oneB, okC, vals, fillV, partsE, Int.reduceLE, Int.reduceLT, Int.reduceToNat, Nat.reduceAdd, Nat.reduceEqDiff, Nat.reduceLT, Nat.reduceLeDiff, Nat.reduceMul, Nat.reduceSub, reduceCtorEq, tbAGi1, Try.results36]
  refine fun b1 h1 => ?_; replace h1 := newb h1; try simp only [Nb] at h1
  simp only [↓ruleA0, ↓ruleA1, ↓ruleA2, ruleB0, ruleB1, ruleB2, ruleB3, ruleL, ↓retK, ncall, Todo_eq, packV, eqTB, litB, litV, fitL, fit, veqL, veq, sbin, sun, nilB, cellsV, oneB, okC, vals, fillV, partsE, Int.reduceLE, Int.reduceLT, Int.reduceToNat, Nat.reduceAdd, Nat.reduceEqDiff, Nat.reduceLT, Nat.reduceLeDiff, Nat.reduceMul, Nat.reduceSub, reduceCtorEq, tbAGi1, Try.results36]
  exact ⟨_, [_], [], Le.refl _, List.Sublist.refl _, List.nil_sublist _, rfl, b1, rfl, rfl⟩
end Go.Proofs.Ytopfanlkbepemaa

/- Arrangements: contracts, part n: slices.Insert at groups (under way). -/
set_option linter.unusedSimpArgs false
set_option maxRecDepth 100000
namespace Go.Proofs.Ytopfanlkbepemaa
open Go.VL Go.Ar Go.Proofs.Ytopfanlkbepemaa

set_option linter.defProp false in
def tbAGj0 := (And.intro (And.intro (And.intro (And.intro (And.intro (And.intro Ty.sz3 Ty.by3) (And.intro Ty.ag3 (And.intro Ty.zr3 Ty.un3))) (And.intro (And.intro Ty.sz4 (And.intro Ty.by4 Ty.ag4)) (And.intro Ty.zr4 (And.intro Ty.un4 Ty.sz9)))) (And.intro (And.intro (And.intro Ty.by9 Ty.ag9) (And.intro Ty.zr9 (And.intro Ty.un9 Ty.sz22))) (And.intro (And.intro Ty.by22 (And.intro Ty.ag22 Ty.zr22)) (And.intro Ty.un22 (And.intro Ty.sz41 Ty.by41))))) (And.intro (And.intro (And.intro (And.intro Ty.ag41 Ty.zr41) (And.intro Ty.un41 (And.intro Ty.sz53 Ty.by53))) (And.intro (And.intro Ty.ag53 (And.intro Ty.zr53 Ty.fl53_0)) (And.intro Ty.pl53_0 (And.intro Ty.fl53_1 Ty.pl53_1)))) (And.intro (And.intro (And.intro Ty.sz54 Ty.by54) (And.intro Ty.ag54 (And.intro Ty.zr54 Ty.un54))) (And.intro (And.intro Ty.sz56 (And.intro Ty.by56 Ty.ag56)) (And.intro Ty.zr56 (And.intro Ty.fl56_0 Ty.pl56_0)))))) (And.intro (And.intro (And.intro (And.intro (And.intro Ty.fl56_1 Ty.pl56_1) (And.intro Ty.fl56_2 (And.intro Ty.pl56_2 Ty.fl56_3))) (And.intro (And.intro Ty.pl56_3 (And.intro Ty.fl56_4 Ty.pl56_4)) (And.intro Ty.fl56_5 (And.intro Ty.pl56_5 Ty.fl56_6)))) (And.intro (And.intro (And.intro Ty.pl56_6 Ty.sz61) (And.intro Ty.by61 (And.intro Ty.ag61 Ty.zr61))) (And.intro (And.intro Ty.fl61_0 (And.intro Ty.pl61_0 Ty.fl61_1)) (And.intro Ty.pl61_1 (And.intro Ty.fl61_2 Ty.pl61_2))))) (And.intro (And.intro (And.intro (And.intro Ty.sz65 Ty.by65) (And.intro Ty.ag65 (And.intro Ty.zr65 Ty.fl65_0))) (And.intro (And.intro Ty.pl65_0 (And.intro Ty.fl65_1 Ty.pl65_1)) (And.intro Ty.sz109 (And.intro Ty.by109 Ty.ag109)))) (And.intro (And.intro (And.intro Ty.zr109 Ty.fl109_0) (And.intro Ty.pl109_0 (And.intro Ty.fl109_1 Ty.pl109_1))) (And.intro (And.intro Ty.fl109_2 (And.intro Ty.pl109_2 Ty.eq53)) (And.intro Ty.eq109 (And.intro Ty.cb90 Ty.cb91)))))))
theorem insNil_ok (g : List V) (own : Option Value) : Ok Try.prog 77 [nilS, vint 0, .list own 2 [g]] [] fun v bs rs => rs = [] ∧ ∃ b c, 1 ≤ c ∧ v = .lit (.slice (some ⟨b, 0, none⟩) 1 c) ∧ bs = [(b, .c (g ++ anys ((c - 1) * 2)))] := by
  refine Ok.of_ex Ty.mixed Try.func77 rfl (by simp [Try.ntmps77]) (by kernel_rfl) fun F w0 I0 => ?_
  simp only [↓ruleA0, ↓ruleA1, ↓ruleA2, ruleB0, ruleB1, ruleB2, ruleB3, ruleL, ↓retK, ncall, Todo_eq, packV, eqTB, litB, litV, fitL, fit, veqL, veq, sbin, sun, nilB, cellsV, oneB, okC, vals, fillV, partsE, Int.reduceLE, Int.reduceLT, Int.reduceToNat, Nat.reduceAdd, Nat.reduceEqDiff, Nat.reduceLT, Nat.reduceLeDiff, Nat.reduceMul, Nat.reduceSub, reduceCtorEq, tbAGj0, Try.results77]
  simp only [↓ruleA0, ↓ruleA1, ↓ruleA2, ruleB0, ruleB1, ruleB2, ruleB3, ruleL, ↓retK, ncall, Todo_eq, packV, eqTB, litB, litV, fitL, fit, veqL, veq, sbin, sun, nilB, cellsV, oneB, okC, vals, fillV, partsE, Int.reduceLE, Int.reduceLT, Int.reduceToNat, Nat.reduceAdd, Nat.reduceEqDiff, Nat.reduceLT, Nat.reduceLeDiff, Nat.reduceMul, Nat.reduceSub, reduceCtorEq, tbAGj0, Try.results77, show ¬ ((1 : Nat) : Int) = 0 by decide]
  refine Or2.r ?_
  simp only [↓ruleA0, ↓ruleA1, ↓ruleA2, ruleB0, ruleB1, ruleB2, ruleB3, ruleL, ↓retK, ncall, Todo_eq, packV, eqTB, litB, litV, fitL, fit, veqL, veq, sbin, sun, nilB, cellsV, oneB, okC, vals, fillV, partsE, Int.reduceLE, Int.reduceLT, Int.reduceToNat, Nat.reduceAdd, Nat.reduceEqDiff, Nat.reduceLT, Nat.reduceLeDiff, Nat.reduceMul, Nat.reduceSub, reduceCtorEq, tbAGj0, Try.results77]
  refine fun b c hb hc => ?_
  simp only [↓ruleA0, ↓ruleA1, ↓ruleA2, ruleB0, ruleB1, ruleB2, ruleB3, ruleL, ↓retK, ncall, Todo_eq, packV, eqTB, litB, litV, fitL, fit, veqL, veq, sbin, sun, nilB, cellsV, oneB, okC, vals, fillV, partsE, Int.reduceLE, Int.reduceLT, Int.reduceToNat, Nat.reduceAdd, Nat.reduceEqDiff, Nat.reduceLT, Nat.reduceLeDiff, Nat.reduceMul, Nat.reduceSub, reduceCtorEq, tbAGj0, Try.results77]
  exact ⟨_, [_], [], Le.refl _, List.Sublist.refl _, List.nil_sublist _, rfl, b, c, hc, rfl, by simp⟩

set_option linter.defProp false in
def tbAGj1 := (And.intro (And.intro (And.intro (And.intro (And.intro (And.intro Ty.sz3 Ty.by3) (And.intro Ty.ag3 (And.intro Ty.zr3 Ty.un3))) (And.intro (And.intro Ty.sz4 (And.intro Ty.by4 Ty.ag4)) (And.intro Ty.zr4 (And.intro Ty.un4 Ty.sz9)))) (And.intro (And.intro (And.intro Ty.by9 Ty.ag9) (And.intro Ty.zr9 (And.intro Ty.un9 Ty.sz22))) (And.intro (And.intro Ty.by22 (And.intro Ty.ag22 Ty.zr22)) (And.intro Ty.un22 (And.intro Ty.sz41 Ty.by41))))) (And.intro (And.intro (And.intro (And.intro Ty.ag41 Ty.zr41) (And.intro Ty.un41 (And.intro Ty.sz53 Ty.by53))) (And.intro (And.intro Ty.ag53 (And.intro Ty.zr53 Ty.fl53_0)) (And.intro Ty.pl53_0 (And.intro Ty.fl53_1 Ty.pl53_1)))) (And.intro (And.intro (And.intro Ty.sz54 Ty.by54) (And.intro Ty.ag54 (And.intro Ty.zr54 Ty.un54))) (And.intro (And.intro Ty.sz56 (And.intro Ty.by56 Ty.ag56)) (And.intro Ty.zr56 (And.intro Ty.fl56_0 Ty.pl56_0)))))) (And.intro (And.intro (And.intro (And.intro (And.intro Ty.fl56_1 Ty.pl56_1) (And.intro Ty.fl56_2 (And.intro Ty.pl56_2 Ty.fl56_3))) (And.intro (And.intro Ty.pl56_3 (And.intro Ty.fl56_4 Ty.pl56_4)) (And.intro Ty.fl56_5 (And.intro Ty.pl56_5 Ty.fl56_6)))) (And.intro (And.intro (And.intro Ty.pl56_6 Ty.sz61) (And.intro Ty.by61 (And.intro Ty.ag61 Ty.zr61))) (And.intro (And.intro Ty.fl61_0 (And.intro Ty.pl61_0 Ty.fl61_1)) (And.intro Ty.pl61_1 (And.intro Ty.fl61_2 Ty.pl61_2))))) (And.intro (And.intro (And.intro (And.intro Ty.sz65 Ty.by65) (And.intro Ty.ag65 (And.intro Ty.zr65 Ty.fl65_0))) (And.intro (And.intro Ty.pl65_0 (And.intro Ty.fl65_1 Ty.pl65_1)) (And.intro Ty.sz109 (And.intro Ty.by109 Ty.ag109)))) (And.intro (And.intro (And.intro Ty.zr109 Ty.fl109_0) (And.intro Ty.pl109_0 (And.intro Ty.fl109_1 Ty.pl109_1))) (And.intro (And.intro Ty.fl109_2 (And.intro Ty.pl109_2 Ty.eq53)) (And.intro Ty.eq109 (And.intro Ty.cb90 Ty.cb91)))))))
theorem insEnd_ok (cs : List V) (n c ba : Nat) (g : List V) (own : Option Value) (hg : g.length = 2) (hcs : cs.length = c * 2) (hn : n ≤ c) (hnb : n ≤ big) : Ok Try.prog 77 [.lit (.slice (some ⟨ba, 0, none⟩) n c), vint n, .list own 2 [g]] [(ba, .c cs)] fun v bs rs => rs = [] ∧ ∃ b c', n + 1 ≤ c' ∧ v = .lit (.slice (some ⟨b, 0, none⟩) (n + 1) c') ∧ bs = [(b, .c (cs.take (n * 2) ++ g ++ anys ((c' - (n + 1)) * 2)))] := by
  unfold big at hnb
  refine Ok.of_ex Ty.mixed Try.func77 rfl (by simp [Try.ntmps77]) (by kernel_rfl) fun F w0 I0 => ?_
  simp only [↓ruleA0, ↓ruleA1, ↓ruleA2, ruleB0, ruleB1, ruleB2, ruleB3, ruleL, ↓retK, ncall, Todo_eq, packV, eqTB, litB, litV, fitL, fit, veqL, veq, sbin, sun, nilB, cellsV, oneB, okC, vals, fillV, partsE, Int.reduceLE, Int.reduceLT, Int.reduceToNat, Nat.reduceAdd, Nat.reduceEqDiff, Nat.reduceLT, Nat.reduceLeDiff, Nat.reduceMul, Nat.reduceSub, reduceCtorEq, tbAGj1, Try.results77]
  refine ⟨hn, ?_⟩
  simp only [↓ruleA0, ↓ruleA1, ↓ruleA2, ruleB0, ruleB1, ruleB2, ruleB3, ruleL, ↓retK, ncall, Todo_eq, packV, eqTB, litB, litV, fitL, fit, veqL, veq, sbin, sun, nilB, cellsV, oneB, okC, vals, fillV, partsE, Int.reduceLE, Int.reduceLT, Int.reduceToNat, Nat.reduceAdd, Nat.reduceEqDiff, Nat.reduceLT, Nat.reduceLeDiff, Nat.reduceMul, Nat.reduceSub, reduceCtorEq, tbAGj1, Try.results77, show ¬ ((1 : Nat) : Int) = 0 by decide]
  refine Or2.r ?_
  simp only [↓ruleA0, ↓ruleA1, ↓ruleA2, ruleB0, ruleB1, ruleB2, ruleB3, ruleL, ↓retK, ncall, Todo_eq, packV, eqTB, litB, litV, fitL, fit, veqL, veq, sbin, sun, nilB, cellsV, oneB, okC, vals, fillV, partsE, Int.reduceLE, Int.reduceLT, Int.reduceToNat, Nat.reduceAdd, Nat.reduceEqDiff, Nat.reduceLT, Nat.reduceLeDiff, Nat.reduceMul, Nat.reduceSub, reduceCtorEq, tbAGj1, Try.results77]
  refine ⟨⟨hcs, hn, by omega⟩, fun b c' hb hc => ?_⟩
  simp only [↓ruleA0, ↓ruleA1, ↓ruleA2, ruleB0, ruleB1, ruleB2, ruleB3, ruleL, ↓retK, ncall, Todo_eq, packV, eqTB, litB, litV, fitL, fit, veqL, veq, sbin, sun, nilB, cellsV, oneB, okC, vals, fillV, partsE, Int.reduceLE, Int.reduceLT, Int.reduceToNat, Nat.reduceAdd, Nat.reduceEqDiff, Nat.reduceLT, Nat.reduceLeDiff, Nat.reduceMul, Nat.reduceSub, reduceCtorEq, tbAGj1, Try.results77, remB]
  exact ⟨_, [_], [], Le.refl _, List.Sublist.refl _, List.nil_sublist _, rfl, b, c', hc, rfl, by simp⟩
end Go.Proofs.Ytopfanlkbepemaa

/- Arrangements: the plain law of the index: keys, parts, what tells an arrangement. -/
namespace Go.Proofs.Ytopfanlkbepemaa
open Go.VL Go.Ar Go.Proofs.Ytopfanlkbepemaa

theorem less_total {a b : Str} (h : less a b = false) (hn : ¬ a = b) : less b a = true := by
  have h1 := cmpS_gt h hn
  have h2 := pre_cmpS.anti a b
  exact (less_cmp b a).2 (by omega)
theorem less_asymm {a b : Str} (h : less a b = true) : less b a = false := by
  cases e : less b a
  · rfl
  · exact absurd (less_trans h e) (by rw [less_irrefl]; decide)

/-! ### Keys -/
abbrev KSorted (l : List Str) : Prop := l.Pairwise fun a b => less a b = true
theorem KSorted.nodup {l : List Str} (h : KSorted l) : l.Nodup := h.imp fun h => less_ne h
theorem ksorted_eq : ∀ {l m : List Str}, KSorted l → KSorted m → (∀ k, k ∈ l ↔ k ∈ m) → l = m
  | [], [], _, _, _ => rfl
  | [], k :: m, _, _, h => by have := (h k).2 List.mem_cons_self; cases this
  | k :: l, [], _, _, h => by have := (h k).1 List.mem_cons_self; cases this
  | a :: l, b :: m, hl, hm, h => by
    have hl' := List.pairwise_cons.1 hl
    have hm' := List.pairwise_cons.1 hm
    have e : a = b := by
      rcases List.mem_cons.1 ((h a).1 List.mem_cons_self) with e | e
      · exact e
      rcases List.mem_cons.1 ((h b).2 List.mem_cons_self) with e' | e'
      · exact e'.symm
      have h1 := hm'.1 a e
      have h2 := hl'.1 b e'
      rw [less_asymm h1] at h2; cases h2
    subst e
    rw [ksorted_eq hl'.2 hm'.2 fun k => ?_]
    constructor
    · intro hk
      rcases List.mem_cons.1 ((h k).1 (List.mem_cons_of_mem _ hk)) with e | e
      · subst e; exact absurd rfl (less_ne (hl'.1 _ hk))
      · exact e
    · intro hk
      rcases List.mem_cons.1 ((h k).2 (List.mem_cons_of_mem _ hk)) with e | e
      · subst e; exact absurd rfl (less_ne (hm'.1 _ hk))
      · exact e
theorem insK_mem {s k : Str} : ∀ {l : List Str}, k ∈ insK l s ↔ k = s ∨ k ∈ l
  | [] => by simp [insK]
  | a :: r => by
    have ih := insK_mem (s := s) (k := k) (l := r)
    unfold insK
    split
    · simp only [List.mem_cons, ih]
      constructor
      · rintro (h | h | h)
        · exact .inr (.inl h)
        · exact .inl h
        · exact .inr (.inr h)
      · rintro (h | h | h)
        · exact .inr (.inl h)
        · exact .inl h
        · exact .inr (.inr h)
    · split
      · rename_i e
        subst e
        simp only [List.mem_cons]
        constructor
        · exact .inr
        · rintro (h | h)
          · exact .inl h
          · exact h
      · simp only [List.mem_cons]
theorem insK_sorted {s : Str} : ∀ {l : List Str}, KSorted l → KSorted (insK l s)
  | [], _ => by simp [insK]
  | a :: r, h => by
    have hc := List.pairwise_cons.1 h
    unfold insK
    split
    · rename_i h1
      refine List.pairwise_cons.2 ⟨fun z hz => ?_, insK_sorted hc.2⟩
      rcases insK_mem.1 hz with rfl | hz
      · exact h1
      · exact hc.1 z hz
    · rename_i h1
      split
      · exact h
      · rename_i h2
        have h3 : less s a = true := less_total (by simpa using h1) h2
        refine List.pairwise_cons.2 ⟨fun z hz => ?_, h⟩
        rcases List.mem_cons.1 hz with rfl | hz
        · exact h3
        · exact less_trans h3 (hc.1 z hz)
theorem foldK (d : List Dlt) : ∀ l : List Str, KSorted l → KSorted (d.foldl (fun l x => insK l x.row.key) l) ∧ ∀ k, k ∈ d.foldl (fun l x => insK l x.row.key) l ↔ k ∈ l ∨ ∃ x ∈ d, x.row.key = k := by
  induction d with
  | nil => intro l h; exact ⟨h, fun k => by simp⟩
  | cons x d ih =>
    intro l h
    obtain ⟨h1, h2⟩ := ih (insK l x.row.key) (insK_sorted h)
    refine ⟨h1, fun k => ?_⟩
    rw [List.foldl_cons, h2, insK_mem]
    constructor
    · rintro ((rfl | h) | ⟨y, hy, e⟩)
      · exact .inr ⟨x, List.mem_cons_self, rfl⟩
      · exact .inl h
      · exact .inr ⟨y, List.mem_cons_of_mem _ hy, e⟩
    · rintro (h | ⟨y, hy, e⟩)
      · exact .inl (.inr h)
      · rcases List.mem_cons.1 hy with rfl | hy
        · exact .inl (.inl e.symm)
        · exact .inr ⟨y, hy, e⟩
theorem keysM_sorted (d : List Dlt) : KSorted (keysM d) := (foldK d [] List.Pairwise.nil).1
theorem keysM_mem (d : List Dlt) (k : Str) : k ∈ keysM d ↔ ∃ x ∈ d, x.row.key = k := by
  have := (foldK d [] List.Pairwise.nil).2 k
  simpa [keysM] using this

/-! ### Parts -/
def partD (d : List Dlt) (k : Str) : List Dlt := d.filter fun x => decide (x.row.key = k)
def grpOf (d : List Dlt) (k : Str) : Grp := ⟨k, consM (partD d k)⟩
def full (g : Grp) : Bool := decide (0 < g.ds.length)
def grpsM (d : List Dlt) : List Grp := ((keysM d).map (grpOf d)).filter full
def ofM (s : Int) (d : List Dlt) : Arr := ⟨s, grpsM d⟩
theorem allD_cons (g : Grp) (l : List Grp) : allD (g :: l) = g.ds ++ allD l := by simp [allD]
theorem allD_full (l : List Grp) : allD (l.filter full) = allD l := by
  induction l with
  | nil => rfl
  | cons g l ih =>
    rw [List.filter_cons, allD_cons]
    split
    · rw [allD_cons, ih]
    · rename_i h
      have : g.ds = [] := List.eq_nil_of_length_eq_zero (by simp only [full, decide_eq_true_eq] at h; omega)
      rw [this, ih, List.nil_append]

/-! ### Sums over what a predicate takes -/
def sumP (p : Int → Rw → Bool) : List Dlt → Int
  | [] => 0
  | x :: l => (if p x.tick x.row = true then x.n else 0) + sumP p l
theorem coef_sumP (t : Int) (r : Rw) : ∀ l, coef l t r = sumP (fun t' r' => decide (t' = t ∧ r' = r)) l
  | [] => rfl
  | x :: l => by simp only [coef, sumP, coef_sumP t r l, decide_eq_true_eq]
theorem sumP_append (p : Int → Rw → Bool) (l m : List Dlt) : sumP p (l ++ m) = sumP p l + sumP p m := by
  induction l with
  | nil => simp [sumP]
  | cons x l ih => simp only [List.cons_append, sumP, ih]; omega
theorem sumP_filter (p : Int → Rw → Bool) (q : Dlt → Bool) : ∀ l : List Dlt, sumP p (l.filter q) + sumP p (l.filter fun x => !q x) = sumP p l
  | [] => rfl
  | x :: l => by
    have ih := sumP_filter p q l
    simp only [List.filter_cons]
    cases hq : q x <;> simp [sumP] <;> omega
theorem sumP_same (p : Int → Rw → Bool) (t : Int) (r : Rw) : ∀ l : List Dlt, sumP p (l.filter fun x => decide (x.tick = t ∧ x.row = r)) = if p t r = true then coef l t r else 0
  | [] => by simp [sumP, coef]
  | x :: l => by
    have ih := sumP_same p t r l
    rw [List.filter_cons]
    by_cases h : x.tick = t ∧ x.row = r
    · simp only [h, and_self, decide_true, if_true, sumP, coef, ih]
      split <;> omega
    · simp only [h, decide_false, Bool.false_eq_true, if_false, coef, ih]
      split <;> omega
theorem coef_other (t : Int) (r : Rw) (t' : Int) (r' : Rw) : ∀ l : List Dlt, coef (l.filter fun x => !decide (x.tick = t ∧ x.row = r)) t' r' = if t' = t ∧ r' = r then 0 else coef l t' r'
  | [] => by simp [coef]
  | x :: l => by
    have ih := coef_other t r t' r' l
    rw [List.filter_cons]
    by_cases h : x.tick = t ∧ x.row = r
    · simp only [h, and_self, decide_true, Bool.not_true, Bool.false_eq_true, if_false, ih, coef]
      by_cases h' : t' = t ∧ r' = r
      · simp only [h', and_self, if_true]
      · rw [if_neg h', if_neg h', if_neg (fun e => h' ⟨e.1.symm, e.2.symm⟩)]; omega
    · simp only [h, decide_false, Bool.not_false, if_true, coef, ih]
      by_cases h' : t' = t ∧ r' = r
      · obtain ⟨rfl, rfl⟩ := h'
        simp [h]
      · rw [if_neg h', if_neg h']
theorem sumP_zero (p : Int → Rw → Bool) : ∀ (n : Nat) (d : List Dlt), d.length ≤ n → (∀ t r, coef d t r % W64 = 0) → sumP p d % W64 = 0
  | _, [], _, _ => rfl
  | 0, x :: d, h, _ => by simp at h
  | n + 1, x :: d, hn, h => by
    rw [← sumP_filter p (fun y => decide (y.tick = x.tick ∧ y.row = x.row)) (x :: d), sumP_same]
    have h1 := h x.tick x.row
    have h2 := sumP_zero p n ((x :: d).filter fun y => !decide (y.tick = x.tick ∧ y.row = x.row)) (by
      rw [List.filter_cons]
      simp only [and_self, decide_true, Bool.not_true, Bool.false_eq_true, if_false]
      have := List.length_filter_le (fun y : Dlt => !decide (y.tick = x.tick ∧ y.row = x.row)) d
      simp only [List.length_cons] at hn
      omega) (fun t r => by
        rw [coef_other]
        split
        · rfl
        · exact h t r)
    simp only [W64] at h1 h2 ⊢
    split <;> omega
def neg (d : List Dlt) : List Dlt := d.map fun x => { x with n := - x.n }
theorem sumP_neg (p : Int → Rw → Bool) : ∀ d, sumP p (neg d) = - sumP p d
  | [] => rfl
  | x :: d => by
    have ih := sumP_neg p d
    unfold neg at ih ⊢
    simp only [List.map_cons, sumP, ih]
    split <;> omega
/-- Lists with the same sums. -/
def Eqv (d e : List Dlt) : Prop := ∀ t r, coef d t r % W64 = coef e t r % W64
theorem Eqv.refl (d : List Dlt) : Eqv d d := fun _ _ => rfl
theorem Eqv.symm {d e : List Dlt} (h : Eqv d e) : Eqv e d := fun t r => (h t r).symm
theorem Eqv.trans {d e f : List Dlt} (h : Eqv d e) (h' : Eqv e f) : Eqv d f := fun t r => (h t r).trans (h' t r)
theorem Eqv.sum {d e : List Dlt} (h : Eqv d e) (p : Int → Rw → Bool) : sumP p d % W64 = sumP p e % W64 := by
  have := sumP_zero p _ (d ++ neg e) (Nat.le_refl _) (fun t r => by
    have h1 := h t r
    rw [coef_append, coef_sumP t r (neg e), sumP_neg, ← coef_sumP]
    simp only [W64] at h1 ⊢
    omega)
  rw [sumP_append, sumP_neg] at this
  simp only [W64] at this ⊢
  omega
theorem Eqv.of {d e : List Dlt} (q : Int → Rw → Int → Rw → Bool) (d' e' : List Dlt) (hd : ∀ t r, coef d' t r = sumP (q t r) d) (he : ∀ t r, coef e' t r = sumP (q t r) e) (h : Eqv d e) : Eqv d' e' :=
  fun t r => by rw [hd, he]; exact h.sum _
theorem Eqv.append {d e d' e' : List Dlt} (h : Eqv d e) (h' : Eqv d' e') : Eqv (d ++ d') (e ++ e') := fun t r => by
  have h1 := h t r
  have h2 := h' t r
  rw [coef_append, coef_append]
  simp only [W64] at h1 h2 ⊢
  omega
theorem Eqv.perm {d e : List Dlt} (h : d.Perm e) : Eqv d e := fun t r => by rw [coef_perm h]

def advD (s : Int) (d : List Dlt) : List Dlt := d.map fun x => { x with tick := max x.tick s }
theorem coef_adv (s : Int) (t : Int) (r : Rw) : ∀ d, coef (advD s d) t r = sumP (fun t' r' => decide (max t' s = t ∧ r' = r)) d
  | [] => rfl
  | x :: d => by
    have ih := coef_adv s t r d
    unfold advD at ih ⊢
    simp only [List.map_cons, coef, sumP, ih, decide_eq_true_eq]
theorem Eqv.adv {d e : List Dlt} (h : Eqv d e) (s : Int) : Eqv (advD s d) (advD s e) := Eqv.of _ _ _ (fun t r => coef_adv s t r d) (fun t r => coef_adv s t r e) h
theorem coef_filter (q : Rw → Bool) (t : Int) (r : Rw) : ∀ d : List Dlt, coef (d.filter fun x => q x.row) t r = sumP (fun t' r' => q r' && decide (t' = t ∧ r' = r)) d
  | [] => rfl
  | x :: d => by
    have ih := coef_filter q t r d
    rw [List.filter_cons]
    cases hq : q x.row
    · simp only [Bool.false_eq_true, if_false, sumP, hq, Bool.false_and, ih]; omega
    · simp only [if_true, coef, sumP, hq, Bool.true_and, ih, decide_eq_true_eq]
theorem Eqv.filter {d e : List Dlt} (h : Eqv d e) (q : Rw → Bool) : Eqv (d.filter fun x => q x.row) (e.filter fun x => q x.row) := Eqv.of _ _ _ (fun t r => coef_filter q t r d) (fun t r => coef_filter q t r e) h
theorem Eqv.part {d e : List Dlt} (h : Eqv d e) (k : Str) : Eqv (partD d k) (partD e k) := h.filter fun r => decide (r.key = k)
theorem Eqv.purge {d e : List Dlt} (h : Eqv d e) (ids : List FID) : Eqv (purgeM d ids) (purgeM e ids) := h.filter fun r => !decide (r.id ∈ ids)
theorem coef_early (u : Int) (t : Int) (r : Rw) : ∀ d, coef (earlyM d u) t r = sumP (fun t' r' => decide (t' ≤ u) && decide (0 = t ∧ r' = r)) d
  | [] => rfl
  | x :: d => by
    have ih := coef_early u t r d
    unfold earlyM at ih ⊢
    rw [List.filter_cons]
    by_cases hx : x.tick ≤ u
    · simp only [hx, decide_true, if_true, List.map_cons, coef, sumP, ih, Bool.true_and, decide_eq_true_eq]
    · simp only [hx, decide_false, Bool.false_eq_true, if_false, sumP, ih, Bool.false_and]; omega
theorem Eqv.early {d e : List Dlt} (h : Eqv d e) (u : Int) : Eqv (earlyM d u) (earlyM e u) := Eqv.of _ _ _ (fun t r => coef_early u t r d) (fun t r => coef_early u t r e) h
theorem eqv_cons {d : List Dlt} (hd : okN d) : Eqv (consM d) d := fun t r => consM_coef hd t r

/-! ### What tells an arrangement -/
theorem consM_keys {d : List Dlt} : ∀ y ∈ consM d, ∃ x ∈ d, y.tick = x.tick ∧ y.row = x.row := by
  have : ∀ (d : List Dlt) (l : List Dlt), ∀ y ∈ d.foldl putM l, (∃ x ∈ d, y.tick = x.tick ∧ y.row = x.row) ∨ ∃ x ∈ l, y.tick = x.tick ∧ y.row = x.row := by
    intro d
    induction d with
    | nil => intro l y hy; exact .inr ⟨y, hy, rfl, rfl⟩
    | cons x d ih =>
      intro l y hy
      rcases ih _ y hy with ⟨z, hz, e⟩ | ⟨z, hz, e⟩
      · exact .inl ⟨z, List.mem_cons_of_mem _ hz, e⟩
      · rcases putM_keys hz with e' | ⟨w, hw, e'⟩
        · exact .inl ⟨x, List.mem_cons_self, e.1.trans e'.1, e.2.trans e'.2⟩
        · exact .inr ⟨w, hw, e.1.trans e'.1, e.2.trans e'.2⟩
  intro y hy
  rcases this d [] y hy with h | ⟨x, hx, _⟩
  · exact h
  · cases hx
theorem okN_part {d : List Dlt} (hd : okN d) (k : Str) : okN (partD d k) := fun x hx => hd x (List.mem_filter.1 hx).1
theorem okN_purge {d : List Dlt} (hd : okN d) (ids : List FID) : okN (purgeM d ids) := fun x hx => hd x (List.mem_filter.1 hx).1
theorem okN_adv {d : List Dlt} (hd : okN d) (s : Int) : okN (advD s d) := fun x hx => by
  obtain ⟨y, hy, rfl⟩ := List.mem_map.1 hx
  exact hd y hy
theorem okN_early {d : List Dlt} (hd : okN d) (t : Int) : okN (earlyM d t) := fun x hx => by
  obtain ⟨y, hy, rfl⟩ := List.mem_map.1 hx
  exact hd y (List.mem_filter.1 hy).1
theorem okN_append {d e : List Dlt} (hd : okN d) (he : okN e) : okN (d ++ e) := fun x hx => (List.mem_append.1 hx).elim (hd x) (he x)
structure GrpOk (g : Grp) : Prop where
  ne : g.ds ≠ []
  canon : Canon g.ds
  key : ∀ x ∈ g.ds, x.row.key = g.key
structure GsOk (l : List Grp) : Prop where
  sorted : l.Pairwise fun g h => less g.key h.key = true
  grp : ∀ g ∈ l, GrpOk g
theorem GsOk.tail {g : Grp} {l : List Grp} (h : GsOk (g :: l)) : GsOk l := ⟨(List.pairwise_cons.1 h.sorted).2, fun x hx => h.grp x (List.mem_cons_of_mem _ hx)⟩
theorem GsOk.okN {l : List Grp} (h : GsOk l) : okN (allD l) := fun x hx => by
  obtain ⟨g, hg, hx⟩ := List.mem_flatMap.1 hx
  exact ((h.grp g hg).canon.2 x hx).2
theorem grpsM_ok {d : List Dlt} (hd : okN d) : GsOk (grpsM d) where
  sorted := (List.pairwise_map.2 (keysM_sorted d)).filter _
  grp g hg := by
    obtain ⟨h1, h2⟩ := List.mem_filter.1 hg
    obtain ⟨k, hk, rfl⟩ := List.mem_map.1 h1
    refine ⟨fun e => ?_, consM_canon (okN_part hd k), fun x hx => ?_⟩
    · simp only [full, decide_eq_true_eq] at h2
      rw [e] at h2; simp at h2
    · obtain ⟨y, hy, e1, e2⟩ := consM_keys x hx
      have := (List.mem_filter.1 hy).2
      rw [e2]; exact of_decide_eq_true this
theorem grpsM_mem {d : List Dlt} : ∀ y ∈ allD (grpsM d), ∃ x ∈ d, y.tick = x.tick ∧ y.row = x.row := by
  intro y hy
  unfold grpsM at hy
  rw [allD_full] at hy
  obtain ⟨g, hg, hy⟩ := List.mem_flatMap.1 hy
  obtain ⟨k, hk, rfl⟩ := List.mem_map.1 hg
  obtain ⟨x, hx, e⟩ := consM_keys y hy
  exact ⟨x, (List.mem_filter.1 hx).1, e⟩
theorem coefA_none {l : List Grp} {t : Int} {r : Rw} (h : GsOk l) (hk : ∀ g ∈ l, g.key ≠ r.key) : coef (allD l) t r = 0 :=
  coef_none fun y hy e => by
    obtain ⟨g, hg, hy⟩ := List.mem_flatMap.1 hy
    exact hk g hg (by rw [← (h.grp g hg).key y hy, e.2])
theorem coefA_head {g : Grp} {l : List Grp} {t : Int} {r : Rw} (h : GsOk (g :: l)) : coef (allD (g :: l)) t r = if r.key = g.key then coef g.ds t r else coef (allD l) t r := by
  rw [allD_cons, coef_append]
  split
  · rename_i e
    rw [coefA_none h.tail fun x hx e' => less_ne ((List.pairwise_cons.1 h.sorted).1 x hx) (e.symm.trans e'.symm)]
    omega
  · rename_i e
    rw [coef_none fun y hy e' => e (by rw [← e'.2]; exact (h.grp g List.mem_cons_self).key y hy)]
    omega
theorem GrpOk.first {g : Grp} (h : GrpOk g) : ∃ t r, r.key = g.key ∧ coef g.ds t r % W64 ≠ 0 := by
  match hd : g.ds, h.ne with
  | x :: l, _ =>
    have hc := h.canon
    rw [hd] at hc
    refine ⟨x.tick, x.row, h.key x (by rw [hd]; exact List.mem_cons_self), ?_⟩
    rw [hc.head]
    exact nz_mod (hc.2 x List.mem_cons_self).1 (hc.2 x List.mem_cons_self).2
theorem gs_less {g : Grp} {l m : List Grp} (hl : GsOk (g :: l)) (hm : GsOk m) (hk : ∀ h ∈ m, h.key ≠ g.key) (h : ∀ t r, coef (allD (g :: l)) t r % W64 = coef (allD m) t r % W64) : False := by
  obtain ⟨t, r, e, hn⟩ := (hl.grp g List.mem_cons_self).first
  have := h t r
  rw [coefA_head hl, if_pos e, coefA_none hm fun x hx => e ▸ hk x hx] at this
  exact hn this
theorem gs_eq : ∀ {l m : List Grp}, GsOk l → GsOk m → (∀ t r, coef (allD l) t r % W64 = coef (allD m) t r % W64) → l = m
  | [], [], _, _, _ => rfl
  | [], g :: m, hl, hm, h => (gs_less hm hl (fun _ hx => by cases hx) fun t r => (h t r).symm).elim
  | g :: l, [], hl, hm, h => (gs_less hl hm (fun _ hx => by cases hx) h).elim
  | g :: l, g' :: m, hl, hm, h => by
    have hl' := (List.pairwise_cons.1 hl.sorted).1
    have hm' := (List.pairwise_cons.1 hm.sorted).1
    by_cases e : g.key = g'.key
    · have e1 : g.ds = g'.ds := canon_eq (hl.grp g List.mem_cons_self).canon (hm.grp g' List.mem_cons_self).canon fun t r => by
        by_cases er : r.key = g.key
        · have := h t r
          rwa [coefA_head hl, coefA_head hm, if_pos er, if_pos (er.trans e)] at this
        · rw [coef_none fun y hy e' => er (by rw [← e'.2]; exact (hl.grp g List.mem_cons_self).key y hy), coef_none fun y hy e' => er (by rw [← e'.2, e]; exact (hm.grp g' List.mem_cons_self).key y hy)]
      have e2 : l = m := gs_eq hl.tail hm.tail fun t r => by
        by_cases er : r.key = g.key
        · rw [coefA_none hl.tail fun x hx e' => less_ne (hl' x hx) (er.symm.trans e'.symm), coefA_none hm.tail fun x hx e' => less_ne (hm' x hx) (e.symm.trans (er.symm.trans e'.symm))]
        · have := h t r
          rwa [coefA_head hl, coefA_head hm, if_neg er, if_neg (fun x => er (x.trans e.symm))] at this
      rw [e2, grp_ext.2 ⟨e, e1⟩]
    · cases hlt : less g.key g'.key
      · have hlt' := less_total hlt e
        refine (gs_less hm hl (fun x hx => ?_) fun t r => (h t r).symm).elim
        rcases List.mem_cons.1 hx with rfl | hx
        · exact e
        · exact fun e' => less_ne (less_trans hlt' (hl' x hx)) e'.symm
      · refine (gs_less hl hm (fun x hx => ?_) h).elim
        rcases List.mem_cons.1 hx with rfl | hx
        · exact fun e' => e e'.symm
        · exact fun e' => less_ne (less_trans hlt (hm' x hx)) e'.symm

theorem coef_part (k : Str) (t : Int) (r : Rw) (d : List Dlt) : coef (partD d k) t r = if r.key = k then coef d t r else 0 := by
  induction d with
  | nil => simp [partD, coef]
  | cons x d ih =>
    unfold partD at ih ⊢
    rw [List.filter_cons]
    by_cases hx : x.row.key = k
    · simp only [hx, decide_true, if_true, coef, ih]
      by_cases hr : r.key = k
      · rw [if_pos hr, if_pos hr]
      · have : ¬ (x.tick = t ∧ x.row = r) := fun e => hr (e.2 ▸ hx)
        rw [if_neg hr, if_neg hr, if_neg this]; rfl
    · simp only [hx, decide_false, Bool.false_eq_true, if_false, ih, coef]
      by_cases hr : r.key = k
      · have : ¬ (x.tick = t ∧ x.row = r) := fun e => hx (by rw [e.2]; exact hr)
        rw [if_pos hr, if_pos hr, if_neg this]; omega
      · rw [if_neg hr, if_neg hr]
theorem coef_parts {d : List Dlt} (hd : okN d) (t : Int) (r : Rw) : ∀ K : List Str, K.Nodup → (r.key ∈ K → coef (allD (K.map (grpOf d))) t r % W64 = coef d t r % W64) ∧ (¬ r.key ∈ K → coef (allD (K.map (grpOf d))) t r % W64 = 0)
  | [], _ => ⟨fun h => (by cases h), fun _ => rfl⟩
  | k :: K, h => by
    have ih := coef_parts hd t r K (List.nodup_cons.1 h).2
    have hk := (List.nodup_cons.1 h).1
    rw [List.map_cons, allD_cons, coef_append]
    have h1 : coef (grpOf d k).ds t r % W64 = (if r.key = k then coef d t r else 0) % W64 := by
      rw [← coef_part k t r d]; exact consM_coef (okN_part hd k) t r
    by_cases e : r.key = k
    · have hn : ¬ r.key ∈ K := e ▸ hk
      have i2 := ih.2 hn
      rw [if_pos e] at h1
      refine ⟨fun _ => ?_, fun h => absurd (by rw [e]; exact List.mem_cons_self) h⟩
      simp only [W64] at h1 i2 ⊢
      omega
    · rw [if_neg e] at h1
      constructor
      · intro hm
        have i1 := ih.1 ((List.mem_cons.1 hm).resolve_left e)
        simp only [W64] at h1 i1 ⊢
        omega
      · intro hm
        have i2 := ih.2 fun h => hm (List.mem_cons_of_mem _ h)
        simp only [W64] at h1 i2 ⊢
        omega
theorem grpsM_coef {d : List Dlt} (hd : okN d) : Eqv (allD (grpsM d)) d := fun t r => by
  unfold grpsM
  rw [allD_full]
  have hc := coef_parts hd t r _ (keysM_sorted d).nodup
  by_cases h : r.key ∈ keysM d
  · exact hc.1 h
  · rw [hc.2 h, coef_none fun y hy e => h ((keysM_mem d r.key).2 ⟨y, hy, by rw [e.2]⟩)]; rfl
theorem grpsM_congr {d e : List Dlt} (hd : okN d) (he : okN e) (h : Eqv d e) : grpsM d = grpsM e :=
  gs_eq (grpsM_ok hd) (grpsM_ok he) ((grpsM_coef hd).trans (h.trans (grpsM_coef he).symm))
theorem grpsM_self {l : List Grp} (h : GsOk l) : grpsM (allD l) = l := gs_eq (grpsM_ok h.okN) h (grpsM_coef h.okN)
end Go.Proofs.Ytopfanlkbepemaa

/- Arrangements: the plain law of the index: rows at a tick, keys at a tick, validity. -/
namespace Go.Proofs.Ytopfanlkbepemaa
open Go.VL Go.Ar Go.Proofs.Ytopfanlkbepemaa

/-! ### Rows at a tick -/
def rowsAt (d : List Dlt) (t : Int) : List Rw := rowsM (consM (earlyM d t))
theorem rowsAt_congr {d e : List Dlt} (hd : okN d) (he : okN e) (h : Eqv d e) (t : Int) : rowsAt d t = rowsAt e t := by
  unfold rowsAt
  rw [consM_congr (okN_early hd t) (okN_early he t) (h.early t)]
theorem early_adv (d : List Dlt) {s t : Int} (h : s ≤ t) : earlyM (advD s d) t = earlyM d t := by
  unfold earlyM advD
  rw [List.filter_map, List.map_map]
  have : (fun x : Dlt => decide (x.tick ≤ t)) ∘ (fun x : Dlt => { x with tick := max x.tick s }) = fun x => decide (x.tick ≤ t) := by
    funext x
    simp only [Function.comp]
    exact decide_eq_decide.2 (by omega)
  rw [this]
  rfl
theorem part_adv (d : List Dlt) (s : Int) (k : Str) : partD (advD s d) k = advD s (partD d k) := by
  unfold partD advD
  rw [List.filter_map]
  rfl
theorem part_purge (d : List Dlt) (ids : List FID) (k : Str) : partD (purgeM d ids) k = purgeM (partD d k) ids := by
  unfold partD purgeM
  rw [List.filter_filter, List.filter_filter]
  exact List.filter_congr fun x _ => Bool.and_comm _ _
theorem purge_adv (d : List Dlt) (s : Int) (ids : List FID) : purgeM (advD s d) ids = advD s (purgeM d ids) := by
  unfold purgeM advD
  rw [List.filter_map]
  rfl
theorem adv_adv (d : List Dlt) {s t : Int} (h : s ≤ t) : advD t (advD s d) = advD t d := by
  unfold advD
  rw [List.map_map]
  refine List.map_congr_left fun x _ => ?_
  simp only [Function.comp, Dlt.mk.injEq, true_and, and_true]
  omega
theorem adv_late {d : List Dlt} {s : Int} (h : ∀ x ∈ d, s ≤ x.tick) : advD s d = d := by
  unfold advD
  conv => rhs; rw [← List.map_id d]
  refine List.map_congr_left fun x hx => ?_
  have := h x hx
  obtain ⟨r, t, n⟩ := x
  simp only [id, Dlt.mk.injEq, true_and, and_true] at this ⊢
  omega
theorem adv_append (s : Int) (d e : List Dlt) : advD s (d ++ e) = advD s d ++ advD s e := List.map_append
theorem canon_filter {d : List Dlt} (h : Canon d) (q : Dlt → Bool) : Canon (d.filter q) := ⟨h.1.filter q, fun x hx => h.2 x (List.mem_filter.1 hx).1⟩
theorem cons_purge {d : List Dlt} (hd : okN d) (ids : List FID) : consM (purgeM d ids) = purgeM (consM d) ids :=
  (eq_consM (okN_purge hd ids) (canon_filter (consM_canon hd) _) ((eqv_cons hd).purge ids)).symm
theorem early_purge (d : List Dlt) (ids : List FID) (t : Int) : earlyM (purgeM d ids) t = purgeM (earlyM d t) ids := by
  unfold earlyM purgeM
  rw [List.filter_map, List.filter_filter, List.filter_filter]
  congr 1
  exact List.filter_congr fun x _ => Bool.and_comm _ _
theorem rows_purge (d : List Dlt) (ids : List FID) : rowsM (purgeM d ids) = (rowsM d).filter fun r => !decide (r.id ∈ ids) := by
  unfold rowsM purgeM
  rw [List.filter_map, List.filter_filter, List.filter_filter]
  congr 1
  exact List.filter_congr fun x _ => Bool.and_comm _ _
theorem rowsAt_purge {d : List Dlt} (hd : okN d) (ids : List FID) (t : Int) : rowsAt (purgeM d ids) t = (rowsAt d t).filter fun r => !decide (r.id ∈ ids) := by
  unfold rowsAt
  rw [early_purge, cons_purge (okN_early hd t), rows_purge]

/-! ### The rows and keys of an index -/
theorem part_none {l : List Grp} (h : GsOk l) {k : Str} (hk : ∀ g ∈ l, g.key ≠ k) : partD (allD l) k = [] := by
  refine List.filter_eq_nil_iff.2 fun x hx => ?_
  obtain ⟨g, hg, hx⟩ := List.mem_flatMap.1 hx
  have := (h.grp g hg).key x hx
  simpa [this] using hk g hg
theorem part_all {g : Grp} (h : GrpOk g) : partD g.ds g.key = g.ds := List.filter_eq_self.2 fun x hx => by simpa using h.key x hx
theorem part_other {g : Grp} (h : GrpOk g) {k : Str} (hk : ¬ g.key = k) : partD g.ds k = [] := List.filter_eq_nil_iff.2 fun x hx => by
  rw [h.key x hx]; simpa using hk
theorem part_append (d e : List Dlt) (k : Str) : partD (d ++ e) k = partD d k ++ partD e k := List.filter_append ..
theorem part_head {g : Grp} {l : List Grp} (h : GsOk (g :: l)) (k : Str) : partD (allD (g :: l)) k = if g.key = k then g.ds else partD (allD l) k := by
  rw [allD_cons, part_append]
  split
  · rename_i e
    subst e
    rw [part_all (h.grp g List.mem_cons_self), part_none h.tail fun x hx e' => less_ne ((List.pairwise_cons.1 h.sorted).1 x hx) e'.symm, List.append_nil]
  · rename_i e
    rw [part_other (h.grp g List.mem_cons_self) e, List.nil_append]
theorem part_of {l : List Grp} (h : GsOk l) {g : Grp} (hg : g ∈ l) : partD (allD l) g.key = g.ds := by
  induction l with
  | nil => cases hg
  | cons g' l ih =>
    rw [part_head h]
    rcases List.mem_cons.1 hg with rfl | hg
    · rw [if_pos rfl]
    · rw [if_neg (less_ne ((List.pairwise_cons.1 h.sorted).1 g hg)), ih h.tail hg]
theorem keysP_sorted {l : List Grp} (h : GsOk l) (t : Int) : KSorted (keysP l t) := List.pairwise_map.2 (h.sorted.filter _)
theorem keysP_mem {l : List Grp} (h : GsOk l) (t : Int) (k : Str) : k ∈ keysP l t ↔ rowsAt (partD (allD l) k) t ≠ [] := by
  unfold keysP
  rw [List.mem_map]
  constructor
  · rintro ⟨g, hg, rfl⟩
    obtain ⟨hg, hh⟩ := List.mem_filter.1 hg
    rw [part_of h hg]
    intro e
    simp only [hasAt, decide_eq_true_eq] at hh
    rw [show rowsM (consM (earlyM g.ds t)) = [] from e] at hh
    simp at hh
  · intro hn
    by_cases hk : ∃ g ∈ l, g.key = k
    · obtain ⟨g, hg, rfl⟩ := hk
      refine ⟨g, List.mem_filter.2 ⟨hg, ?_⟩, rfl⟩
      rw [part_of h hg] at hn
      simp only [hasAt, decide_eq_true_eq]
      exact List.length_pos_iff.2 hn
    · exact absurd (by rw [part_none h fun g hg e => hk ⟨g, hg, e⟩]; rfl) hn
theorem keysP_congr {l m : List Grp} (hl : GsOk l) (hm : GsOk m) {t : Int} (h : ∀ k, rowsAt (partD (allD l) k) t = rowsAt (partD (allD m) k) t) : keysP l t = keysP m t :=
  ksorted_eq (keysP_sorted hl t) (keysP_sorted hm t) fun k => by rw [keysP_mem hl, keysP_mem hm, h]
/-- The rows of a key. -/
def rowsK (a : Arr) (k : Str) (lo hi t : Int) : List Rw := (rowsAt (partD (allD a.groups) k) t).filter fun r => decide (lo ≤ r.event) && decide (r.event ≤ hi)

/-! ### The reference's rows at a tick -/
theorem psorted_eq {α : Type} {R : α → α → Prop} (asym : ∀ a b, R a b → ¬ R b a) : ∀ {l m : List α}, l.Pairwise R → m.Pairwise R → (∀ k, k ∈ l ↔ k ∈ m) → l = m
  | [], [], _, _, _ => rfl
  | [], k :: m, _, _, h => by have := (h k).2 List.mem_cons_self; cases this
  | k :: l, [], _, _, h => by have := (h k).1 List.mem_cons_self; cases this
  | a :: l, b :: m, hl, hm, h => by
    have hl' := List.pairwise_cons.1 hl
    have hm' := List.pairwise_cons.1 hm
    have e : a = b := by
      rcases List.mem_cons.1 ((h a).1 List.mem_cons_self) with e | e
      · exact e
      rcases List.mem_cons.1 ((h b).2 List.mem_cons_self) with e' | e'
      · exact e'.symm
      exact absurd (hl'.1 b e') (asym _ _ (hm'.1 a e))
    subst e
    have ir : ¬ R a a := fun h => asym a a h h
    rw [psorted_eq asym hl'.2 hm'.2 fun k => ?_]
    constructor
    · intro hk
      rcases List.mem_cons.1 ((h k).1 (List.mem_cons_of_mem _ hk)) with e | e
      · subst e; exact absurd (hl'.1 _ hk) ir
      · exact e
    · intro hk
      rcases List.mem_cons.1 ((h k).2 (List.mem_cons_of_mem _ hk)) with e | e
      · subst e; exact absurd (hm'.1 _ hk) ir
      · exact e
def cntM (d : List Dlt) (r : Rw) (t : Int) : Int := d.foldl (fun n x => if x.tick ≤ t ∧ x.row = r then wrap (n + x.n) else n) 0
theorem cntM_take (d : List Dlt) (r : Rw) (t : Int) (i : Nat) (h : i < d.length) : cntM (d.take (i + 1)) r t = if d[i].tick ≤ t ∧ d[i].row = r then wrap (cntM (d.take i) r t + d[i].n) else cntM (d.take i) r t := by
  unfold cntM; rw [List.take_succ_eq_append_getElem h, List.foldl_append]; rfl
theorem cnt_fold (r : Rw) (t : Int) : ∀ (d : List Dlt) (n : Int), inR n → inR (d.foldl (fun n x => if x.tick ≤ t ∧ x.row = r then wrap (n + x.n) else n) n) ∧ (d.foldl (fun n x => if x.tick ≤ t ∧ x.row = r then wrap (n + x.n) else n) n) % W64 = (n + coef (earlyM d t) 0 r) % W64
  | [], n, h => ⟨h, by simp [earlyM, coef]⟩
  | x :: d, n, h => by
    rw [List.foldl_cons]
    have hin : inR (if x.tick ≤ t ∧ x.row = r then wrap (n + x.n) else n) := by
      split
      · exact wrap_in _
      · exact h
    obtain ⟨h1, h2⟩ := cnt_fold r t d _ hin
    refine ⟨h1, h2.trans ?_⟩
    have hw := wrap_mod (n + x.n)
    unfold earlyM
    rw [List.filter_cons]
    by_cases hx : x.tick ≤ t
    · simp only [hx, true_and, decide_true, if_true, List.map_cons, coef]
      split
      · simp only [W64] at hw ⊢; omega
      · simp only [W64]; omega
    · simp only [hx, false_and, decide_false, Bool.false_eq_true, if_false]
theorem cntM_eq (d : List Dlt) (r : Rw) (t : Int) : cntM d r t = wrap (coef (earlyM d t) 0 r) := by
  obtain ⟨h1, h2⟩ := cnt_fold r t d 0 (by unfold inR; omega)
  refine inR_eq h1 (wrap_in _) ?_
  rw [wrap_mod]
  unfold cntM
  rw [h2, Int.zero_add]
theorem cntM_in (d : List Dlt) (r : Rw) (t : Int) : inR (cntM d r t) := (cnt_fold r t d 0 (by unfold inR; omega)).1
abbrev ltR (a b : Rw) : Bool := decide (cmpFull a b < 0)
theorem ltR_trans {a b c : Rw} (h : ltR a b = true) (h' : ltR b c = true) : ltR a c = true := by
  simp only [ltR, decide_eq_true_eq] at h h' ⊢
  exact pre_cmpFull.lt_trans h h'
theorem ltR_asymm {a b : Rw} (h : ltR a b = true) : ¬ ltR b a = true := by
  simp only [ltR, decide_eq_true_eq] at h ⊢
  have := pre_cmpFull.anti a b
  omega
theorem ltR_total {a b : Rw} (h : ¬ ltR a b = true) (hn : ¬ a = b) : ltR b a = true := by
  simp only [ltR, decide_eq_true_eq] at h ⊢
  have := pre_cmpFull.anti a b
  have : cmpFull a b ≠ 0 := fun e => hn (cmpFull_eq0.1 e)
  omega
def insR (l : List Rw) (r : Rw) : List Rw := match l with
  | [] => [r]
  | x :: l => if ltR x r = true then x :: insR l r else r :: x :: l
def at20 (d : List Dlt) (t : Int) : List Rw := d.foldl (fun l x => if cntM d x.row t ≤ 0 ∨ x.row ∈ l then l else insR l x.row) []
theorem insR_mem {r k : Rw} : ∀ {l : List Rw}, k ∈ insR l r ↔ k = r ∨ k ∈ l
  | [] => by simp [insR]
  | a :: l => by
    have ih := insR_mem (r := r) (k := k) (l := l)
    unfold insR
    split
    · simp only [List.mem_cons, ih]
      constructor
      · rintro (h | h | h)
        · exact .inr (.inl h)
        · exact .inl h
        · exact .inr (.inr h)
      · rintro (h | h | h)
        · exact .inr (.inl h)
        · exact .inl h
        · exact .inr (.inr h)
    · simp only [List.mem_cons]
theorem insR_sorted {r : Rw} : ∀ {l : List Rw}, (l.Pairwise fun a b => ltR a b = true) → ¬ r ∈ l → (insR l r).Pairwise fun a b => ltR a b = true
  | [], _, _ => by simp [insR]
  | a :: l, h, hn => by
    have hc := List.pairwise_cons.1 h
    unfold insR
    split
    · rename_i h1
      refine List.pairwise_cons.2 ⟨fun z hz => ?_, insR_sorted hc.2 fun h => hn (List.mem_cons_of_mem _ h)⟩
      rcases insR_mem.1 hz with rfl | hz
      · exact h1
      · exact hc.1 z hz
    · rename_i h1
      have h3 : ltR r a = true := ltR_total h1 fun e => hn (e ▸ List.mem_cons_self)
      refine List.pairwise_cons.2 ⟨fun z hz => ?_, h⟩
      rcases List.mem_cons.1 hz with rfl | hz
      · exact h3
      · exact ltR_trans h3 (hc.1 z hz)
theorem insR_at (s : Rw) : ∀ (l : List Rw) (i : Nat), i ≤ l.length → (∀ j, (h : j < l.length) → j < i → ltR l[j] s = true) → (∀ h : i < l.length, ¬ ltR l[i] s = true) → insR l s = l.take i ++ s :: l.drop i
  | [], i, hi, _, _ => by
    obtain rfl : i = 0 := by simpa using hi
    simp [insR]
  | k :: r, 0, _, _, h2 => by
    have h := h2 (by simp)
    simp only [List.getElem_cons_zero] at h
    simp only [insR, if_neg h, List.take_zero, List.drop_zero, List.nil_append]
  | k :: r, i + 1, hi, h1, h2 => by
    have h := h1 0 (by simp) (by omega)
    simp only [List.getElem_cons_zero] at h
    have ih := insR_at s r i (by simpa using hi) (fun j hj hji => h1 (j + 1) (by simpa using hj) (by omega)) (fun hlt => h2 (by simpa using hlt))
    simp only [insR, h, if_true, List.take_succ_cons, List.drop_succ_cons, List.cons_append, ih]
theorem insR_len (s : Rw) : ∀ l : List Rw, (insR l s).length = l.length + 1
  | [] => rfl
  | k :: r => by
    have := insR_len s r
    unfold insR
    split <;> simp [this]
theorem fold20 (p : Rw → Prop) [DecidablePred p] (d : List Dlt) : ∀ l : List Rw, (l.Pairwise fun a b => ltR a b = true) → ((d.foldl (fun l x => if p x.row ∨ x.row ∈ l then l else insR l x.row) l).Pairwise fun a b => ltR a b = true) ∧ ∀ r, r ∈ d.foldl (fun l x => if p x.row ∨ x.row ∈ l then l else insR l x.row) l ↔ r ∈ l ∨ (¬ p r ∧ ∃ x ∈ d, x.row = r) := by
  induction d with
  | nil => intro l h; exact ⟨h, fun r => by simp⟩
  | cons x d ih =>
    intro l h
    rw [List.foldl_cons]
    by_cases hx : p x.row ∨ x.row ∈ l
    · rw [if_pos hx]
      obtain ⟨h1, h2⟩ := ih l h
      refine ⟨h1, fun r => ?_⟩
      rw [h2]
      constructor
      · rintro (h | ⟨h, y, hy, e⟩)
        · exact .inl h
        · exact .inr ⟨h, y, List.mem_cons_of_mem _ hy, e⟩
      · rintro (h | ⟨h, y, hy, e⟩)
        · exact .inl h
        · rcases List.mem_cons.1 hy with rfl | hy
          · rcases hx with hx | hx
            · exact absurd (e ▸ hx) h
            · exact .inl (e ▸ hx)
          · exact .inr ⟨h, y, hy, e⟩
    · rw [if_neg hx]
      have hp : ¬ p x.row := fun h => hx (.inl h)
      obtain ⟨h1, h2⟩ := ih (insR l x.row) (insR_sorted h fun h => hx (.inr h))
      refine ⟨h1, fun r => ?_⟩
      rw [h2, insR_mem]
      constructor
      · rintro ((rfl | h) | ⟨h, y, hy, e⟩)
        · exact .inr ⟨hp, x, List.mem_cons_self, rfl⟩
        · exact .inl h
        · exact .inr ⟨h, y, List.mem_cons_of_mem _ hy, e⟩
      · rintro (h | ⟨h, y, hy, e⟩)
        · exact .inl (.inr h)
        · rcases List.mem_cons.1 hy with rfl | hy
          · exact .inl (.inl e.symm)
          · exact .inr ⟨h, y, hy, e⟩
theorem canon_coef {l : List Dlt} (h : Canon l) {x : Dlt} (hx : x ∈ l) : coef l x.tick x.row = x.n := by
  induction l with
  | nil => cases hx
  | cons y l ih =>
    rcases List.mem_cons.1 hx with rfl | hx
    · exact h.head
    · simp only [coef]
      rw [if_neg (ltD_key ((List.pairwise_cons.1 h.1).1 x hx)), ih h.tail hx]; omega
theorem canon_has {l : List Dlt} {t : Int} {r : Rw} (h : coef l t r ≠ 0) : ∃ x ∈ l, x.tick = t ∧ x.row = r := by
  refine Classical.byContradiction fun hn => h (coef_none fun y hy e => hn ⟨y, hy, e⟩)
theorem early_tick {d : List Dlt} {t : Int} : ∀ x ∈ earlyM d t, x.tick = 0 := fun x hx => by
  obtain ⟨y, _, rfl⟩ := List.mem_map.1 hx
  rfl
theorem rowsAt_sorted {d : List Dlt} (hd : okN d) (t : Int) : (rowsAt d t).Pairwise fun a b => ltR a b = true := by
  unfold rowsAt rowsM
  have hc := consM_canon (okN_early hd t)
  have ht : ∀ x ∈ consM (earlyM d t), x.tick = 0 := fun x hx => by
    obtain ⟨y, hy, e, _⟩ := consM_keys x hx
    rw [e]; exact early_tick y hy
  refine List.pairwise_map.2 (List.Pairwise.filter _ ?_)
  refine List.Pairwise.imp_of_mem (fun {a b} ha hb h => ?_) hc.1
  simp only [ltD, ht a ha, ht b hb, Int.lt_irrefl, decide_false, decide_true, Bool.true_and, Bool.false_or] at h
  exact h
theorem rowsAt_mem {d : List Dlt} (hd : okN d) (t : Int) (r : Rw) : r ∈ rowsAt d t ↔ 0 < wrap (coef (earlyM d t) 0 r) := by
  have hc := consM_canon (okN_early hd t)
  have he := eqv_cons (okN_early hd t) 0 r
  have ht : ∀ x ∈ consM (earlyM d t), x.tick = 0 := fun x hx => by
    obtain ⟨y, hy, e, _⟩ := consM_keys x hx
    rw [e]; exact early_tick y hy
  have hw : ∀ x ∈ consM (earlyM d t), x.row = r → x.n = wrap (coef (earlyM d t) 0 r) := fun x hx e => by
    have h1 := canon_coef hc hx
    rw [ht x hx, e] at h1
    refine inR_eq (hc.2 x hx).2 (wrap_in _) ?_
    rw [wrap_mod, ← he, h1]
  unfold rowsAt rowsM
  rw [List.mem_map]
  constructor
  · rintro ⟨x, hx, e⟩
    obtain ⟨hx, hp⟩ := List.mem_filter.1 hx
    rw [← hw x hx e]
    simpa using hp
  · intro hp
    have hn : coef (consM (earlyM d t)) 0 r ≠ 0 := fun h0 => by
      have hm := wrap_mod (coef (earlyM d t) 0 r)
      rw [← he, h0] at hm
      have hi := wrap_in (coef (earlyM d t) 0 r)
      unfold inR at hi
      simp only [W64] at hm
      omega
    obtain ⟨x, hx, e1, e2⟩ := canon_has hn
    exact ⟨x, List.mem_filter.2 ⟨hx, by rw [hw x hx e2]; simpa using hp⟩, e2⟩
theorem at20_eq {d : List Dlt} (hd : okN d) (t : Int) : at20 d t = rowsAt d t := by
  obtain ⟨h1, h2⟩ := fold20 (fun r => cntM d r t ≤ 0) d [] List.Pairwise.nil
  refine psorted_eq (R := fun a b => ltR a b = true) (fun a b h => ltR_asymm h) h1 (rowsAt_sorted hd t) fun r => ?_
  rw [rowsAt_mem hd]
  refine (h2 r).trans ?_
  rw [cntM_eq]
  constructor
  · rintro (h | ⟨h, _⟩)
    · cases h
    · omega
  · intro h
    refine .inr ⟨by omega, ?_⟩
    have hn : coef (earlyM d t) 0 r ≠ 0 := fun h0 => by rw [h0] at h; exact absurd h (by decide)
    obtain ⟨x, hx, _, e⟩ := canon_has hn
    obtain ⟨y, hy, rfl⟩ := List.mem_map.1 hx
    exact ⟨y, (List.mem_filter.1 hy).1, e⟩

/-! ### Validity -/
abbrev maxT : Int := 1099511627776
def okG (s : Int) (p : Option Str) (g : Grp) : Bool := decide (g.ds ≠ []) && (match p with | none => true | some k => less k g.key) && g.ds.all (fun x => decide (x.row.key = g.key) && decide (s ≤ x.tick)) && decide (g.ds = consM g.ds)
def okGsB (s : Int) : Option Str → List Grp → Bool
  | _, [] => true
  | p, g :: l => okG s p g && okGsB s (some g.key) l
def ValidA (a : Arr) : Prop := 0 ≤ a.since ∧ a.since ≤ maxT ∧ okGsB a.since none a.groups = true
instance (a : Arr) : Decidable (ValidA a) := by unfold ValidA; infer_instance
structure ArrOk (a : Arr) : Prop where
  lo : 0 ≤ a.since
  hi : a.since ≤ maxT
  gs : GsOk a.groups
  late : ∀ x ∈ allD a.groups, a.since ≤ x.tick
theorem okGsB_of {s : Int} : ∀ {l : List Grp} {p : Option Str}, okN (allD l) → okGsB s p l = true → GsOk l ∧ (∀ x ∈ allD l, s ≤ x.tick) ∧ ∀ k, p = some k → ∀ g ∈ l, less k g.key = true
  | [], p, _, _ => ⟨⟨List.Pairwise.nil, by simp⟩, by simp [allD], by simp⟩
  | g :: l, p, hN, h => by
    simp only [okGsB, okG, Bool.and_eq_true, decide_eq_true_eq, List.all_eq_true] at h
    obtain ⟨⟨⟨⟨h1, h2⟩, h3⟩, h4⟩, h5⟩ := h
    rw [allD_cons] at hN
    obtain ⟨i1, i2, i3⟩ := okGsB_of (fun x hx => hN x (List.mem_append_right _ hx)) h5
    refine ⟨⟨List.pairwise_cons.2 ⟨i3 _ rfl, i1.sorted⟩, fun x hx => ?_⟩, fun x hx => ?_, fun k hk x hx => ?_⟩
    · rcases List.mem_cons.1 hx with rfl | hx
      · exact ⟨h1, h4 ▸ consM_canon (fun y hy => hN y (List.mem_append_left _ hy)), fun y hy => (h3 y hy).1⟩
      · exact i1.grp x hx
    · rw [allD_cons] at hx
      rcases List.mem_append.1 hx with hx | hx
      · exact (h3 x hx).2
      · exact i2 x hx
    · subst hk
      rcases List.mem_cons.1 hx with rfl | hx
      · exact h2
      · exact less_trans h2 (i3 _ rfl x hx)
theorem okGsB_to {s : Int} : ∀ {l : List Grp} {p : Option Str}, GsOk l → (∀ x ∈ allD l, s ≤ x.tick) → (∀ k, p = some k → ∀ g ∈ l, less k g.key = true) → okGsB s p l = true
  | [], p, _, _, _ => rfl
  | g :: l, p, h, hs, hp => by
    have hg := h.grp g List.mem_cons_self
    rw [allD_cons] at hs
    simp only [okGsB, okG, Bool.and_eq_true, decide_eq_true_eq, List.all_eq_true]
    refine ⟨⟨⟨⟨hg.ne, ?_⟩, fun x hx => ⟨hg.key x hx, hs x (List.mem_append_left _ hx)⟩⟩, (consM_self hg.canon).symm⟩, okGsB_to h.tail (fun x hx => hs x (List.mem_append_right _ hx)) fun k hk x hx => ?_⟩
    · cases p with
      | none => rfl
      | some k => exact hp k rfl g List.mem_cons_self
    · cases hk
      exact (List.pairwise_cons.1 h.sorted).1 x hx
theorem valid_iff {a : Arr} (hN : okN (allD a.groups)) : ValidA a ↔ ArrOk a :=
  ⟨fun ⟨h1, h2, h3⟩ => have ⟨i1, i2, _⟩ := okGsB_of hN h3; ⟨h1, h2, i1, i2⟩, fun h => ⟨h.lo, h.hi, okGsB_to h.gs h.late (by simp)⟩⟩
theorem ofM_valid {s : Int} {d : List Dlt} (h0 : 0 ≤ s) (h1 : s ≤ maxT) (hd : okN d) (hs : ∀ x ∈ d, s ≤ x.tick) : ArrOk (ofM s d) where
  lo := h0
  hi := h1
  gs := grpsM_ok hd
  late := fun x hx => by
    obtain ⟨y, hy, e, _⟩ := grpsM_mem x hx
    rw [e]; exact hs y hy
theorem ofM_eq {s : Int} {d e : List Dlt} (hd : okN d) (he : okN e) (h : Eqv d e) : ofM s d = ofM s e := by unfold ofM; rw [grpsM_congr hd he h]
theorem ofM_self {a : Arr} (h : GsOk a.groups) : ofM a.since (allD a.groups) = a := by
  obtain ⟨s, l⟩ := a
  simp only [ofM, grpsM_self h]
end Go.Proofs.Ytopfanlkbepemaa

