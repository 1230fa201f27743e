/- Merged out of my texts N5 L6 N6 N7 L6b. -/
import Derived.Test.YtphkmlogjgeipaaDoorKc
import Derived.Test.YtphkmlogjgeipaaDoorVJ
import Derived.Test.YtphkmlogjgeipaaDoorRows
import Derived.ProofKit
import Derived.JoinedCond
import Derived.Shelf.Vars
import Derived.Lay
import Derived.Deep.DeepHandedRow
import Derived.Deep.DeepWitnessRowRef
set_option linter.unusedSimpArgs false
set_option linter.unusedVariables false
/- Lowering: the graph of an expression is raised to this expression. -/
set_option maxRecDepth 100000
namespace Go.Proofs.YtphkmlogjgeipaaDoor
open Go.VL Go.Ar Go.Lo Go.Proofs.YtphkmlogjgeipaaDoor
theorem own_node {h : Hd} {l : List E} (hk5 : ¬ h.kind = 5) (hp : okHd h false = true) (hw : h = wantH h) (hl : (l.length : Int) = manyH h.kind) (g : List Nd) (ks : List Int) :
    nodeM g { ownM h l with inn := ks } l = (.mk h l, true) ∧ ¬ (({ ownM h l with inn := ks } : Nd).kind = 1 ∨ ({ ownM h l with inn := ks } : Nd).kind = 2 ∨ ({ ownM h l with inn := ks } : Nd).kind = 3) := by
  by_cases e1 : h.kind = 1
  · have l0 : l.length = 0 := by
      rw [e1] at hl
      have : (l.length : Int) = 0 := hl
      omega
    simp [nodeM, ownM, e1, l0]
  by_cases e2 : h.kind = 2
  · simp [okHd, e2] at hp
  by_cases e3 : h.kind = 3
  · have hw' : h = { hd0 3 with name := h.name } := by rw [hw]; simp [wantH, e3]
    refine ⟨?_, by simp [ownM, e3]⟩
    have : nodeM g { ownM h l with inn := ks } l = (.mk { hd0 3 with name := h.name } l, true) := by simp [nodeM, ownM, e3]
    rw [this, ← hw']
  by_cases e4 : h.kind = 4
  · have hw' : h = { hd0 4 with name := h.name } := by rw [hw]; simp [wantH, e4]
    refine ⟨?_, by simp [ownM, e4]⟩
    have : nodeM g { ownM h l with inn := ks } l = (.mk { hd0 4 with name := h.name } l, true) := by simp [nodeM, ownM, e4]
    rw [this, ← hw']
  by_cases e6 : h.kind = 6
  · have l1 : l.length = 1 := by
      rw [e6] at hl
      have : (l.length : Int) = 1 := hl
      omega
    have hw' : h = { hd0 6 with op := h.op } := by rw [hw]; simp [wantH, e6]
    refine ⟨?_, by simp [ownM, e6]⟩
    have : nodeM g { ownM h l with inn := ks } l = (.mk { hd0 6 with op := h.op } l, true) := by simp [nodeM, ownM, e6, l1]
    rw [this, ← hw']
  by_cases e7 : h.kind = 7
  · have l2 : l.length = 2 := by
      rw [e7] at hl
      have : (l.length : Int) = 2 := hl
      omega
    have hop : ¬ h.op = sDefault := by
      intro e
      have hm : memS binL h.op = true := by simpa [okHd, e7] using hp
      rw [e] at hm
      revert hm
      decide +kernel
    have hw' : h = { hd0 7 with op := h.op } := by rw [hw]; simp [wantH, e7]
    refine ⟨?_, by simp [ownM, e7]⟩
    have : nodeM g { ownM h l with inn := ks } l = (.mk { hd0 7 with op := h.op } l, true) := by simp [nodeM, ownM, e7, l2, hop]
    rw [this, ← hw']
  by_cases e8 : h.kind = 8
  · have l3 : l.length = 3 := by
      rw [e8] at hl
      have : (l.length : Int) = 3 := hl
      omega
    have hw' : h = hd0 8 := by rw [hw]; simp [wantH, e8]
    refine ⟨?_, by simp [ownM, e8]⟩
    have : nodeM g { ownM h l with inn := ks } l = (.mk (hd0 8) l, true) := by simp [nodeM, ownM, e8, l3]
    rw [this, ← hw']
  have e9 : h.kind = 9 := by simpa [okHd, e1, e2, e3, e4, hk5, e6, e7, e8] using hp
  have l2 : l.length = 2 := by
    rw [e9] at hl
    have : (l.length : Int) = 2 := hl
    omega
  have hw' : h = hd0 9 := by rw [hw]; simp [wantH, e9]
  refine ⟨?_, by simp [ownM, e9]⟩
  have : nodeM g { ownM h l with inn := ks } l = (.mk (hd0 9) l, true) := by simp [nodeM, ownM, e9, l2]
  rw [this, ← hw']
/-- An expression that is lowered stands, raised, at its place. -/
def Back (g : List Nd) (x : E) : Prop := ∀ L xs, WF L → L.Nodup → raiseF g L = some (ints (szs L), xs) → (lowE L x).1 <+: g → nsE x ≤ 256 →
  ∃ xs', raiseF g (lowE L x).1 = some (ints (szs (lowE L x).1), xs') ∧ xs <+: xs' ∧ xs'.getD (lowE L x).2 exp0 = x
theorem lowEs_pre : ∀ (l : List E) (L : List Nd), (∀ x ∈ l, ∀ L, L <+: (lowE L x).1) → L <+: (lowEs L l).1
  | [], L, _ => List.prefix_refl _
  | x :: r, L, h => (h x List.mem_cons_self L).trans (lowEs_pre r _ fun y hy => h y (List.mem_cons_of_mem _ hy))
theorem overM_pre (L : List Nd) (h : Hd) (a c : E) : L <+: (overM L h a c).1 := (putM_pre _ _).trans ((putM_pre _ _).trans ((putM_pre _ _).trans (putM_pre _ _)))
theorem lowE_pre : ∀ (x : E) (L : List Nd), L <+: (lowE L x).1 := by
  intro x
  induction x using E.ind with
  | h hd l ih =>
  intro L
  rw [lowE_mk]
  split
  · unfold aggM
    split
    · exact overM_pre _ _ _ _
    · exact List.prefix_refl _
  · exact (lowEs_pre l L ih).trans (putM_pre _ _)
theorem lowEs_raise {g : List Nd} : ∀ (l : List E), (∀ x ∈ l, Agg2 x) → (∀ x ∈ l, Back g x) → ∀ L xs, WF L → L.Nodup → raiseF g L = some (ints (szs L), xs) → (lowEs L l).1 <+: g → (nsEs l).sum ≤ 256 →
    ∃ xs', raiseF g (lowEs L l).1 = some (ints (szs (lowEs L l).1), xs') ∧ xs <+: xs' ∧ (lowEs L l).2.map (fun t => xs'.getD t.toNat exp0) = l
  | [], _, _, L, xs, _, _, hr, _, _ => ⟨xs, hr, List.prefix_refl _, rfl⟩
  | x :: r, ha, hb, L, xs, hw, hn, hr, hp, hs => by
    simp only [nsEs, List.sum_cons] at hs
    rw [lowEs] at hp
    have h1 := low_ok x (ha x List.mem_cons_self) L hw hn
    have hp1 : (lowE L x).1 <+: g := (lowEs_pre r _ fun y _ => lowE_pre y).trans hp
    obtain ⟨xs1, a1, a2, a3⟩ := hb x List.mem_cons_self L xs hw hn hr hp1 (by omega)
    obtain ⟨xs2, b1, b2, b3⟩ := lowEs_raise r (fun y hy => ha y (List.mem_cons_of_mem _ hy)) (fun y hy => hb y (List.mem_cons_of_mem _ hy)) (lowE L x).1 xs1 h1.wf h1.nd a1 hp (by omega)
    have hl := (raise_at a1).2.1
    have hq := h1.rsb _ List.mem_cons_self
    refine ⟨xs2, by rw [lowEs]; exact b1, a2.trans b2, ?_⟩
    rw [lowEs]
    simp only [List.map_cons, Int.toNat_natCast]
    rw [b3, getDE_pre b2 (by omega), a3]
theorem over_raise {g : List Nd} {h : Hd} {a c : E} (hw : h = wantH h) (e : h.kind = 5) : ∀ L xs, WF L → L.Nodup → raiseF g L = some (ints (szs L), xs) → (overM L h a c).1 <+: g →
    ∃ xs', raiseF g (overM L h a c).1 = some (ints (szs (overM L h a c).1), xs') ∧ xs <+: xs' ∧ xs'.getD (overM L h a c).2 exp0 = .mk h [a, c] := by
  intro L xs hwf hn hr hp
  simp only [overM] at hp ⊢
  generalize hn1 : ({ nd0 1 with table := h.table } : Nd) = n1 at hp ⊢
  generalize hL1 : putM L n1 = p1 at hp ⊢
  generalize hn2 : ({ nd0 2 with expr := c, inn := [(p1.2 : Int)] } : Nd) = n2 at hp ⊢
  generalize hL2 : putM p1.1 n2 = p2 at hp ⊢
  generalize hn3 : ({ nd0 3 with expr := a, inn := [(p2.2 : Int)] } : Nd) = n3 at hp ⊢
  generalize hL3 : putM p2.1 n3 = p3 at hp ⊢
  generalize hn4 : ({ nd0 4 with op := h.op, param := h.param, wk := h.wk, ws := h.ws, inn := [(p3.2 : Int)] } : Nd) = n4 at hp ⊢
  have q1 : p1.1 <+: p2.1 := hL2 ▸ putM_pre _ _
  have q2 : p2.1 <+: p3.1 := hL3 ▸ putM_pre _ _
  have q3 : p3.1 <+: (putM p3.1 n4).1 := putM_pre _ _
  have w1 := low_put (n := n1) (Low.refl hwf hn) (by rw [← hn1])
  obtain ⟨x1, r1, s1, _⟩ := put_raise (n := n1) (Low.refl hwf hn) hr (by rw [← hn1]) (by decide) (.inl (.inl (by rw [← hn1])))
  rw [hL1] at w1 r1
  have w2 := low_put (n := n2) w1 (by rw [← hn2])
  obtain ⟨x2, r2, s2, _⟩ := put_raise (n := n2) w1 r1 (by rw [← hn2]) (by decide) (.inl (.inr (.inl (by rw [← hn2]))))
  rw [hL2] at w2 r2
  have w3 := low_put (n := n3) w2 (by rw [← hn3])
  obtain ⟨x3, r3, s3, _⟩ := put_raise (n := n3) w2 r2 (by rw [← hn3]) (by decide) (.inl (.inr (.inr (by rw [← hn3]))))
  rw [hL3] at w3 r3
  have at1 : atN g (p1.2 : Int) = n1 := by
    obtain ⟨k, ke⟩ := putM_get L n1
    rw [hL1] at k
    obtain ⟨k', ke'⟩ := pre_get ((q1.trans q2).trans (q3.trans hp)) k
    rw [atN_get k' rfl, ke']
    simp only [hL1] at ke
    exact ke
  have at2 : atN g (p2.2 : Int) = n2 := by
    obtain ⟨k, ke⟩ := putM_get p1.1 n2
    rw [hL2] at k
    obtain ⟨k', ke'⟩ := pre_get (q2.trans (q3.trans hp)) k
    rw [atN_get k' rfl, ke']
    simp only [hL2] at ke
    exact ke
  have at3 : atN g (p3.2 : Int) = n3 := by
    obtain ⟨k, ke⟩ := putM_get p2.1 n3
    rw [hL3] at k
    obtain ⟨k', ke'⟩ := pre_get (q3.trans hp) k
    rw [atN_get k' rfl, ke']
    simp only [hL3] at ke
    exact ke
  have hh : h = ⟨5, h.op, es0, h.table, val0, [], h.param, h.wk, h.ws⟩ := by
    conv => lhs; rw [hw]
    simp [wantH, e]
  have hv : ∀ al, nodeM g n4 al = (.mk h [a, c], true) := fun al => by
    have i4 : in0 n4 = (p3.2 : Int) := by rw [← hn4]; rfl
    have i3 : in0 n3 = (p2.2 : Int) := by rw [← hn3]; rfl
    have i2 : in0 n2 = (p1.2 : Int) := by rw [← hn2]; rfl
    unfold nodeM
    rw [i4, at3, i3, at2, i2, at1]
    conv => rhs; rw [hh]
    rw [← hn4, ← hn3, ← hn2, ← hn1]
    simp
  obtain ⟨x4, r4, s4, v4⟩ := put_raise (n := n4) w3 r3 (by rw [← hn4]) (by decide) (.inr (by rw [hv]))
  refine ⟨x4, r4, s1.trans (s2.trans (s3.trans s4)), ?_⟩
  rw [v4, valM, hv, if_neg (by rw [← hn4]; simp)]
theorem back_ok (g : List Nd) : ∀ x, properE x false = true → Back g x := by
  intro x
  induction x using E.ind with
  | h hd l ih =>
  intro hp L xs hw hn hr hpre hs
  obtain ⟨p1, p2, p3, p4, _⟩ := proper_parts hp
  by_cases e : hd.kind = 5
  · have l2 : l.length = 2 := by
      rw [e] at p3
      have : (l.length : Int) = 2 := p3
      omega
    match l, l2 with
    | [a, c], _ =>
      rw [lowE_agg _ _ _ _ _ e] at hpre ⊢
      exact over_raise p2 e L xs hw hn hr hpre
  · rw [nsE_mk, if_neg e] at hs
    rw [lowE_op _ _ _ e] at hpre ⊢
    have hall : ∀ z ∈ l, properE z false = true := fun z hz => by have := p4 z hz; simpa [e] using this
    have hag : ∀ z ∈ l, Agg2 z := fun z hz => proper_agg2 z _ (hall z hz)
    have h1 := lowEs_low l L (fun z hz => low_ok z (hag z hz)) hw hn
    obtain ⟨xs1, a1, a2, a3⟩ := lowEs_raise l hag (fun z hz => ih z hz (hall z hz)) L xs hw hn hr ((putM_pre _ _).trans hpre) (by omega)
    obtain ⟨o1, o2⟩ := own_node e p1 p2 p3 g (lowEs L l).2
    obtain ⟨xs2, b1, b2, b3⟩ := put_raise (n := { ownM hd l with inn := (lowEs L l).2 }) h1 a1 rfl (by omega) (.inr (by rw [own_inn, a3, o1]))
    refine ⟨xs2, b1, a2.trans b2, ?_⟩
    rw [b3, valM, if_neg o2, own_inn, a3, o1]
theorem nsE_le : ∀ x, Agg2 x → nsE x ≤ 2 * sizeE x := by
  intro x
  induction x using E.ind with
  | h hd l ih =>
  intro hg
  cases hg with
  | mk _ _ hk ha =>
  rw [nsE_mk, sizeE_mk]
  have hsum : (nsEs l).sum ≤ 2 * sizeEs l := by
    clear hk
    induction l with
    | nil => simp [nsEs, sizeEs]
    | cons y r ihr =>
      have h1 := ih y List.mem_cons_self (ha y List.mem_cons_self)
      have h2 := ihr (fun z hz => ih z (List.mem_cons_of_mem _ hz)) (fun z hz => ha z (List.mem_cons_of_mem _ hz))
      simp only [nsEs, sizeEs, List.sum_cons]
      omega
  split
  · rename_i e
    match l, hk e with
    | a :: b :: r, _ =>
      have h1 := sizeE_pos a
      simp only [sizeEs]
      omega
  · omega
theorem raise_graph (x : E) (h : shapeC x = 0) : raiseM (graphC x) = (x, 0) := by
  obtain ⟨p1, p2, p3⟩ := shape_parts h
  have hag := proper_agg2 x false p3
  have hg : graphC x = (lowE [] x).1 := by rw [graphC, if_pos h]
  have hn := nsE_le x hag
  obtain ⟨xs, a1, a2, a3⟩ := back_ok (graphC x) x p3 [] [] (fun i hi => by cases hi) List.nodup_nil rfl (by rw [hg]; exact List.prefix_refl _) (by omega)
  have hr := root_last x hag
  have hl := (raise_at a1).2.1
  rw [← hg] at a1 hr hl
  have hne : ¬ graphC x = [] := by
    intro e
    rw [e] at hr
    simp at hr
  have hlast : xs.getLastD exp0 = x := by
    rw [List.getLastD_eq_getLast?, List.getLast?_eq_getElem?, hl, hr, Nat.add_sub_cancel, ← List.getD_eq_getElem?_getD]
    exact a3
  rw [raiseM, a1]
  simp only [if_neg hne, hlast]
  rw [if_pos ⟨h, trivial⟩]
end Go.Proofs.YtphkmlogjgeipaaDoor

/- Lowering: what comes in: expressions out of typed cells; the package variables that the rows list. -/
set_option linter.unusedSimpArgs false
set_option maxRecDepth 100000
namespace Go.Proofs.YtphkmlogjgeipaaDoor
open Go.VL Go.Ar Go.Lo Go.RowKit Go.ChangeShapes Go.WideShapes Go.Proofs.YtphkmlogjgeipaaDoor

/-! ### Variables that hold strings -/
theorem strs_lies {P : Program} {w : World} {I : Cells} {enc : TypeId × Value → Unit} {base : Nat} {spare : Nat → Bool} {held : Bool} {n : Nat} {e : TypeId} {b o : Nat} (hI : ∀ b o x, w.cell? ⟨b, o, none⟩ = some x → I b o) (he : P.underlying e = some .string) :
    ∀ (ss : List ByteArray) (j : Nat) (elems : List (DataW Unit × List MemPlace)), elems.map (·.1) = ss.map (fun s => .lit (.string s.data.toList)) →
      (∀ i, i < ss.length → (w.cells? base ((⟨b, o, none⟩ : Addr).add ((j + i) * 1)) 1).bind (DataW.trod enc P w base spare held n e) = elems[i]?) → V.lies w I 1 (ss.map fun s => [V.lit (.string s)]) b (o + j)
  | [], j, elems, _, _ => by simp only [List.map_nil, V.lies]
  | s :: ss, j, [], h, _ => by simp at h
  | s :: ss, j, y :: elems, h, hd => by
    simp only [List.map_cons, List.cons.injEq] at h
    have h0 := hd 0 (by simp)
    simp only [Nat.add_zero, Nat.mul_one, List.getElem?_cons_zero, Option.bind_eq_some_iff] at h0
    obtain ⟨cs, hcs, ht⟩ := h0
    obtain ⟨s', rfl, hy, _⟩ := DataW.trod_string he ht
    have hs : s' = s := by
      have h1 := h.1
      rw [hy] at h1
      simp only [DataW.lit.injEq, Lit.string.injEq] at h1
      obtain ⟨⟨l⟩⟩ := s
      obtain ⟨⟨l'⟩⟩ := s'
      simp only at h1
      rw [h1]
    subst hs
    obtain ⟨_, _, hcell⟩ := World.cells?_some hcs
    have hc0 := hcell 0 (by simp)
    simp only [List.getElem?_cons_zero] at hc0
    have hc1 : w.cell? ⟨b, o + j, none⟩ = some (.string s') := by
      rw [← hc0]
      by_cases hj : j = 0
      · subst hj; rfl
      · simp [Addr.add, hj]
    simp only [List.map_cons, V.lies, V.ats]
    refine ⟨⟨⟨_, hc1, hI _ _ _ hc1, by simp [Go.VL.one], by simp only [V.rep]⟩, trivial⟩, rfl, ?_⟩
    have ih := strs_lies (enc := enc) (base := base) (spare := spare) (held := held) (n := n) hI he ss (j + 1) elems h.2 fun i hi => by
      have := hd (i + 1) (by simp only [List.length_cons]; omega)
      rw [show j + (i + 1) = j + 1 + i by omega] at this
      simpa using this
    exact ih
theorem strs_rep {P : Program} {w : World} {I : Cells} {enc : TypeId × Value → Unit} {base : Nat} {spare : Nat → Bool} {held : Bool} {fuel : Nat} {t e : TypeId} {cs : List Value} {p : List MemPlace} (hI : ∀ b o x, w.cell? ⟨b, o, none⟩ = some x → I b o)
    (hu : P.underlying t = some (.slice e)) (he : P.underlying e = some .string) (hc : P.cellsOf e = 1) (s : ByteArray) (ss : List ByteArray)
    (h : DataW.trod enc P w base spare held fuel t cs = some (.slice ((s :: ss).map fun s => .lit (.string s.data.toList)) [], p)) : ∃ x, cs = [x] ∧ Go.VL.one x ∧ V.rep w I (.list none 1 ((s :: ss).map fun s => [V.lit (.string s)])) x := by
  rcases DataW.trod_slice hu h with ⟨_, hx⟩ | ⟨a, len, cap, elems, rest, n, rfl, rfl, hx, hb, hl, hm, hlen, hel, _, _⟩
  · cases hx
  · simp only [Prod.mk.injEq, DataW.slice.injEq] at hx
    obtain ⟨⟨hx1, hx2⟩, _⟩ := hx
    have hss : elems.length = ss.length + 1 := by
      have := congrArg List.length hx1
      simpa using this.symm
    obtain ⟨b, o, spot⟩ := a
    have hspot : spot = none := by
      have h0 := hel 0 (by omega)
      rw [hc, show elems[0]? = some (elems[0]'(by omega)) from by simp, Option.bind_eq_some_iff] at h0
      obtain ⟨cs0, hcs0, _⟩ := h0
      obtain ⟨_, hl0, hcell0⟩ := World.cells?_some hcs0
      have g0 := hcell0 0 (by omega)
      obtain ⟨c0, hc0⟩ : ∃ c0, cs0[0]? = some c0 := ⟨cs0[0]'(by omega), by simp⟩
      rw [hc0] at g0
      have := World.cell?_spot g0
      cases spot with
      | none => rfl
      | some q => simp [Addr.add] at this
    subst hspot
    have hls := strs_lies (b := b) (o := o) hI he (s :: ss) 0 elems hx1.symm fun i hi => by
      have := hel i (by simp only [List.length_cons] at hi; omega)
      rw [hc] at this
      rw [Nat.zero_add]
      exact this
    refine ⟨_, rfl, by simp [Go.VL.one], ?_⟩
    simp only [V.rep]
    refine ⟨fun y hy => (by cases hy), some ⟨b, o, none⟩, cap, ?_, ?_, .inr ⟨b, o, rfl, hls⟩⟩
    · simp only [List.length_map, List.length_cons]; congr 1; omega
    · simp only [List.length_map, List.length_cons]; omega
theorem glob_of {W : World} (h : laidMetH Tryd.prog Rows.lowerSharesUptoRow.laid W) (hsh : W.ShapedOpen Tryd.prog) : Glob W fun b _ => b < W.heap.size := by
  have hI : ∀ b o x, W.cell? ⟨b, o, none⟩ = some x → (fun b _ => b < W.heap.size : Cells) b o := fun b o x hx => by
    unfold World.cell? at hx
    show b < W.heap.size
    by_cases h : b < W.heap.size
    · exact h
    · rw [Array.getElem?_eq_none (by simpa using h)] at hx; simp at hx
  have one : ∀ {nm : String} {g t : Nat} {g' t' : Nat} {cs : Array Value} {fuel : Nat} {p : List MemPlace} (s : ByteArray) (ss : List ByteArray), Tryd.prog.globalNamed nm = some g → (Tryd.prog.globals[g]?).map (·.type) = some t → Tryd.prog.underlying t = some (.slice 9) → 
      Tryd.prog.globalNamed nm = some g' → (Tryd.prog.globals[g']?).map (·.type) = some t' → W.var? Tryd.prog nm = some cs → DataW.trod (fun _ => ()) Tryd.prog W 0 (fun _ => true) false fuel t' cs.toList = some (.slice ((s :: ss).map fun s => .lit (.string s.data.toList)) [], p) →
      V.ats W (fun b _ => b < W.heap.size) [.list none 1 ((s :: ss).map fun s => [V.lit (.string s)])] g 0 := by
    intro nm g t g' t' cs fuel p s ss hg ht hu hg' ht' hvar hd
    obtain rfl := Option.some.inj (hg.symm.trans hg')
    obtain rfl := Option.some.inj (ht.symm.trans ht')
    obtain ⟨x, hx, h1, hr⟩ := strs_rep (I := fun b _ => b < W.heap.size) hI hu Ty.un9 (by kernel_rfl) s ss hd
    have hc := World.var?_cell hg hvar 0
    have hx' : cs[0]? = some x := by
      have := congrArg (·[0]?) hx
      simpa using this
    rw [hx'] at hc
    simp only [V.ats]
    exact ⟨⟨x, hc, hI _ _ _ hc, h1, hr⟩, trivial⟩
  obtain ⟨ps, ⟨g0, t0, cs0, f0, p0, q0, a0, b0, c0, d0, ⟨g1, t1, cs1, f1, p1, q1, a1, b1, c1, d1, ⟨g2, t2, cs2, f2, p2, q2, a2, b2, c2, d2, _⟩, _⟩, _⟩, _⟩ := h
  refine ⟨fun p hp => ?_, fun g hg => ?_⟩
  · have hp' : p ∈ globsV := hp
    simp only [globsV, List.mem_cons, List.not_mem_nil, or_false] at hp'
    rcases hp' with rfl | rfl | rfl
    · exact one (t := 82) ⟨#[99, 111, 117, 110, 116]⟩ [⟨#[115, 117, 109]⟩, ⟨#[109, 101, 97, 110]⟩, ⟨#[109, 105, 110]⟩, ⟨#[109, 97, 120]⟩, ⟨#[102, 105, 114, 115, 116]⟩, ⟨#[108, 97, 115, 116]⟩, ⟨#[100, 105, 115, 116, 105, 110, 99, 116]⟩, ⟨#[113, 117, 97, 110, 116, 105, 108, 101]⟩, ⟨#[100, 101, 99, 97, 121]⟩] (by kernel_rfl : Tryd.prog.globalNamed "asof/checker.aggregates" = some 0) (by kernel_rfl) (by kernel_rfl) a0 b0 c0 d0
    · exact one (t := 82) ⟨#[45]⟩ [⟨#[110, 111, 116]⟩, ⟨#[110, 117, 108, 108]⟩] (by kernel_rfl : Tryd.prog.globalNamed "asof/checker.unary" = some 1) (by kernel_rfl) (by kernel_rfl) a1 b1 c1 d1
    · exact one (t := 82) ⟨#[43]⟩ [⟨#[45]⟩, ⟨#[42]⟩, ⟨#[47]⟩, ⟨#[61, 61]⟩, ⟨#[33, 61]⟩, ⟨#[60]⟩, ⟨#[60, 61]⟩, ⟨#[97, 110, 100]⟩, ⟨#[111, 114]⟩] (by kernel_rfl : Tryd.prog.globalNamed "asof/checker.binary" = some 2) (by kernel_rfl) (by kernel_rfl) a2 b2 c2 d2
  · obtain rfl := List.mem_singleton.1 hg
    obtain ⟨m, hm⟩ := cell_of_shapedOpen_int (P := Tryd.prog) (g := 3) (t := 3) (zero := #[.int .i64 0]) hsh (of_decide_eq_true (by kernel_rfl)) (by kernel_rfl) rfl (by kernel_rfl) (by kernel_rfl) Ty.un3
    exact ⟨m, hm, hI _ _ _ hm⟩
/-! ### Expressions and graphs that came in -/
theorem bulks_pos : ∀ vs : List V, vs.length ≤ V.bulks vs
  | [] => Nat.zero_le _
  | v :: r => by
    have := bulks_pos r
    have h1 : 1 ≤ V.bulk v := by
      cases v with
      | lit x => cases x <;> simp [V.bulk]
      | list a k es => simp [V.bulk]
      | _ => simp [V.bulk]
    simp only [V.bulks, List.length_cons]; omega
theorem inv_list {α : Type} {t e : TypeId} {k d m : Nat} (hu : Tryd.prog.underlying t = some (.slice e)) (hk : Tryd.prog.cellsOf e = k) (c : α → List V) (G : α → Prop) (wt : α → Nat) 
    (inv : ∀ vs, V.bulks vs ≤ m → TV Tryd.prog d e vs → ∃ x, LeL vs (c x) ∧ G x ∧ wt x ≤ V.bulks vs) (pos : ∀ x, 0 < (c x).length) {v : V} (h : TV Tryd.prog (d + 1) t [v]) (hm : V.bulk v ≤ m) :
    ∃ l : List α, Le v (.list none k (l.map c)) ∧ l.length + 1 ≤ V.bulk v ∧ ∀ x ∈ l, G x ∧ wt x + 1 ≤ V.bulk v := by
  simp only [TV, hu] at h
  rcases h with h | ⟨es, h, hmax, hes⟩
  · cases h
    exact ⟨[], Le.nil k, by simp [V.bulk], fun x hx => by cases hx⟩
  · rw [hk] at h
    cases h
    clear hmax
    have hb : V.bulk (.list none k es) = V.bulkss es + 1 := by simp [V.bulk]
    rw [hb] at hm ⊢
    have : ∃ l : List α, LeLL es (l.map c) ∧ l.length ≤ V.bulkss es ∧ ∀ x ∈ l, G x ∧ wt x ≤ V.bulkss es := by
      clear hb
      induction es with
      | nil => exact ⟨[], .nil, Nat.zero_le _, fun x hx => by cases hx⟩
      | cons y es ih =>
        simp only [V.bulkss] at hm
        obtain ⟨x, h1, h2, h3⟩ := inv y (by omega) (hes y List.mem_cons_self)
        obtain ⟨l, g1, g2, g3⟩ := ih (fun z hz => hes z (List.mem_cons_of_mem _ hz)) (by omega)
        have hp := bulks_pos y
        rw [LeL_len h1] at hp
        have := pos x
        refine ⟨x :: l, .cons h1 g1, ?_, ?_⟩
        · simp only [List.length_cons, V.bulkss]; omega
        · intro z hz
          rcases List.mem_cons.1 hz with rfl | hz
          · exact ⟨h2, by simp only [V.bulkss]; omega⟩
          · obtain ⟨q1, q2⟩ := g3 z hz
            exact ⟨q1, by simp only [V.bulkss]; omega⟩
    obtain ⟨l, g1, g2, g3⟩ := this
    exact ⟨l, Le.lists g1, by omega, fun x hx => ⟨(g3 x hx).1, by have := (g3 x hx).2; omega⟩⟩
theorem inv_int {d : Nat} {v : List V} (h : TV Tryd.prog d 3 v) : ∃ n, v = [vint n] := by
  cases d with
  | zero => exact h.elim
  | succ d =>
    simp only [TV, Ty.un3] at h
    obtain ⟨n, rfl, hw⟩ := h
    exact ⟨n, rfl⟩
theorem inv_str {d : Nat} {v : List V} (h : TV Tryd.prog d 9 v) : ∃ s : Str, v = [vstr s] := by
  cases d with
  | zero => exact h.elim
  | succ d =>
    simp only [TV, Ty.un9] at h
    obtain ⟨s, rfl, _⟩ := h
    exact ⟨s, rfl⟩
theorem inv_fac {d : Nat} {vs : List V} (h : TV Tryd.prog d 105 vs) : ∃ x : Fac, vs = cFac x := by
  cases d with
  | zero => exact h.elim
  | succ d =>
    simp only [TV, Tryd.underlying105, TVF] at h
    obtain ⟨x1, y1, rfl, h1, x2, y2, rfl, h2, rfl⟩ := h
    obtain ⟨s, rfl⟩ := inv_str h1
    obtain ⟨n, rfl⟩ := inv_int h2
    exact ⟨⟨s, n⟩, rfl⟩
theorem inv_val {d : Nat} {vs : List V} (h : TV Tryd.prog d 23 vs) : ∃ v : Val, vs = [vint v.kind, vint v.n, vstr v.s] := by
  cases d with
  | zero => exact h.elim
  | succ d =>
    simp only [TV, Tryd.underlying23, TVF] at h
    obtain ⟨x1, y1, rfl, h1, x2, y2, rfl, h2, x3, y3, rfl, h3, rfl⟩ := h
    obtain ⟨k, rfl⟩ := inv_int h1
    obtain ⟨n, rfl⟩ := inv_int h2
    obtain ⟨s, rfl⟩ := inv_str h3
    exact ⟨⟨k, n, s⟩, rfl⟩
theorem inv_win {d : Nat} {vs : List V} (h : TV Tryd.prog d 26 vs) : ∃ a b : Int, vs = [vint a, vint b] := by
  cases d with
  | zero => exact h.elim
  | succ d =>
    simp only [TV, Tryd.underlying26, TVF] at h
    obtain ⟨x1, y1, rfl, h1, x2, y2, rfl, h2, rfl⟩ := h
    obtain ⟨k, rfl⟩ := inv_int h1
    obtain ⟨n, rfl⟩ := inv_int h2
    exact ⟨k, n, rfl⟩
theorem one_slice {d : Nat} {t e : TypeId} {vs : List V} (hu : Tryd.prog.underlying t = some (.slice e)) (h : TV Tryd.prog d t vs) : ∃ v d', vs = [v] ∧ d = d' + 1 := by
  cases d with
  | zero => exact h.elim
  | succ d =>
    simp only [TV, hu] at h
    rcases h with h | ⟨es, h, _⟩
    · exact ⟨_, _, h, rfl⟩
    · exact ⟨_, _, h, rfl⟩
theorem inv_expr : ∀ (d : Nat) (vs : List V), V.bulks vs ≤ big → TV Tryd.prog d 29 vs → ∃ x : E, LeL vs (cE x) ∧ Fit x ∧ depthE x ≤ V.bulks vs := by
  intro d
  induction d using Nat.strongRecOn with
  | ind d ih =>
  intro vs hb h
  cases d with
  | zero => exact h.elim
  | succ d =>
    simp only [TV, Tryd.underlying29, TVF] at h
    obtain ⟨x1, y1, rfl, h1, x2, y2, rfl, h2, x3, y3, rfl, h3, x4, y4, rfl, h4, x5, y5, rfl, h5, x6, y6, rfl, h6, x7, y7, rfl, h7, x8, y8, rfl, h8, x9, y9, rfl, h9, rfl⟩ := h
    obtain ⟨kind, rfl⟩ := inv_int h1
    obtain ⟨op, rfl⟩ := inv_str h2
    obtain ⟨name, rfl⟩ := inv_str h3
    obtain ⟨table, rfl⟩ := inv_str h4
    obtain ⟨val, rfl⟩ := inv_val h5
    obtain ⟨u, d', rfl, rfl⟩ := one_slice Ty.un24 h6
    obtain ⟨param, rfl⟩ := inv_int h7
    obtain ⟨wk, ws, rfl⟩ := inv_win h8
    obtain ⟨a, _, rfl, _⟩ := one_slice Ty.un27 h9
    simp only [List.cons_append, List.nil_append, V.bulks] at hb
    obtain ⟨us, u1, u2, u3⟩ := inv_list (m := big) Ty.un24 (by kernel_rfl : Tryd.prog.cellsOf 105 = 2) cFac (fun _ => True) (fun _ => 0) (fun vs _ h => by obtain ⟨x, rfl⟩ := inv_fac h; exact ⟨x, LeL.refl _, trivial, Nat.zero_le _⟩) (fun _ => Nat.succ_pos _) h6 (by omega)
    obtain ⟨la, a1, a2, a3⟩ := inv_list (m := big) Ty.un27 (by kernel_rfl : Tryd.prog.cellsOf 29 = 12) cE (fun x => Fit x) depthE (fun vs hm h => ih d' (by omega) vs hm h) (fun x => by rw [cE_len]; decide) h9 (by omega)
    refine ⟨.mk ⟨kind, op, name, table, val, us, param, wk, ws⟩ la, ?_, ?_, ?_⟩
    · rw [cE_mk]
      exact .cons (Le.refl _) (.cons (Le.refl _) (.cons (Le.refl _) (.cons (Le.refl _) (.cons (Le.refl _) (.cons (Le.refl _) (.cons (Le.refl _) (.cons u1 (.cons (Le.refl _) (.cons (Le.refl _) (.cons (Le.refl _) (.cons a1 .nil)))))))))))
    · exact .mk _ _ (by simp only; omega) (by omega) fun x hx => (a3 x hx).1
    · rw [depthE_mk]
      simp only [List.cons_append, List.nil_append, V.bulks]
      have : depthEs la + 1 ≤ V.bulk a := by
        have h0 := a2
        clear a1 a2
        induction la with
        | nil => simp only [depthEs, List.length_nil] at h0 ⊢; omega
        | cons x r ihr =>
          have hx := (a3 x List.mem_cons_self).2
          have hr := ihr (fun y hy => a3 y (List.mem_cons_of_mem _ hy)) (by simp only [List.length_cons] at h0; omega)
          simp only [depthEs]
          omega
      omega
theorem in_expr {d : Nat} {a : V} (h : TA Tryd.prog d 29 a) (hb : V.bulkA a ≤ 1048576) : ∃ x : E, Le a (vE x) ∧ Fit x ∧ depthE x ≤ 1048576 := by
  unfold TA at h
  simp only [Ty.ag29] at h
  obtain ⟨vs, rfl, h⟩ := h
  have hb' : V.bulks vs ≤ 1048576 := hb
  obtain ⟨x, h1, h2, h3⟩ := inv_expr d vs (by unfold big; omega) h
  exact ⟨x, leAgg h1, h2, by omega⟩
theorem bulkAs_mem : ∀ {zs : List V} {a : V}, a ∈ zs → V.bulkA a ≤ V.bulkAs zs
  | b :: r, a, h => by
    rcases List.mem_cons.1 h with rfl | h
    · simp only [V.bulkAs]; omega
    · have := bulkAs_mem h; simp only [V.bulkAs]; omega

/-! ### The bulk that the rows speak of -/
mutual
theorem bulk_eq {H : Type} : ∀ d : DataW H, Rows.uptoBulk d = bulkD d
  | .lit (.string b) => by simp only [Rows.uptoBulk, bulkD]
  | .lit (.int _ _) => by simp only [Rows.uptoBulk, bulkD]
  | .lit (.bool _) => by simp only [Rows.uptoBulk, bulkD]
  | .lit (.float _ _) => by simp only [Rows.uptoBulk, bulkD]
  | .lit .nil => by simp only [Rows.uptoBulk, bulkD]
  | .nil => by simp only [Rows.uptoBulk, bulkD]
  | .ptr d => by simp only [Rows.uptoBulk, bulkD, bulk_eq d]
  | .slice es sp => by simp only [Rows.uptoBulk, bulkD, bulks_eq es, bulks_eq sp]
  | .agg ps => by simp only [Rows.uptoBulk, bulkD, bulks_eq ps]
  | .iface _ d => by simp only [Rows.uptoBulk, bulkD, bulk_eq d]
  | .map es => by simp only [Rows.uptoBulk, bulkD, bulke_eq es]
  | .held _ => by simp only [Rows.uptoBulk, bulkD]
theorem bulks_eq {H : Type} : ∀ ds : List (DataW H), Rows.uptoBulkAll ds = bulkDs ds
  | [] => by simp only [Rows.uptoBulkAll, bulkDs]
  | d :: r => by simp only [Rows.uptoBulkAll, bulkDs, bulk_eq d, bulks_eq r]
theorem bulke_eq {H : Type} : ∀ es : List (Lit × DataW H), Rows.uptoBulkEntries es = bulkDe es
  | [] => by simp only [Rows.uptoBulkEntries, bulkDe]
  | x :: r => by simp only [Rows.uptoBulkEntries, bulkDe, bulkx_eq x, bulke_eq r]
theorem bulkx_eq {H : Type} : ∀ x : Lit × DataW H, Rows.uptoBulkEntry x = bulkDx x
  | (.string b, d) => by simp only [Rows.uptoBulkEntry, bulkDx, bulk_eq d]
  | (.int _ _, d) => by simp only [Rows.uptoBulkEntry, bulkDx, bulk_eq d]
  | (.bool _, d) => by simp only [Rows.uptoBulkEntry, bulkDx, bulk_eq d]
  | (.float _ _, d) => by simp only [Rows.uptoBulkEntry, bulkDx, bulk_eq d]
  | (.nil, d) => by simp only [Rows.uptoBulkEntry, bulkDx, bulk_eq d]
end
end Go.Proofs.YtphkmlogjgeipaaDoor

/- LowerRaises: the walk of the law; graphs that come in. -/
set_option linter.unusedSimpArgs false
set_option maxRecDepth 100000
namespace Go.Proofs.YtphkmlogjgeipaaDoor
open Go.VL Go.Ar Go.Lo Go.Proofs.YtphkmlogjgeipaaDoor
theorem len_size : ∀ l : List E, l.length ≤ sizeEs l
  | [] => Nat.zero_le _
  | x :: r => by
    have := len_size r
    have := sizeE_pos x
    simp only [List.length_cons, sizeEs]
    omega
theorem lowEs_few {D B : Nat} : ∀ (l : List E) (L : List Nd), (∀ x ∈ l, ∀ L : List Nd, (∀ n ∈ L, depthE n.expr ≤ D ∧ n.inn.length ≤ B) → ∀ n ∈ (lowE L x).1, depthE n.expr ≤ D ∧ n.inn.length ≤ B) → (∀ n ∈ L, depthE n.expr ≤ D ∧ n.inn.length ≤ B) → ∀ n ∈ (lowEs L l).1, depthE n.expr ≤ D ∧ n.inn.length ≤ B
  | [], _, _, h => h
  | x :: r, L, hx, h => by
    rw [lowEs]
    exact lowEs_few r _ (fun y hy => hx y (List.mem_cons_of_mem _ hy)) (hx x List.mem_cons_self L h)
theorem low_few {D B : Nat} (hD : 1 ≤ D) (hB : 1 ≤ B) : ∀ x, sizeE x ≤ B → depthE x ≤ D → ∀ L : List Nd, (∀ n ∈ L, depthE n.expr ≤ D ∧ n.inn.length ≤ B) → ∀ n ∈ (lowE L x).1, depthE n.expr ≤ D ∧ n.inn.length ≤ B := by
  have h0 : depthE exp0 ≤ D := by rw [depthE_mk]; simp only [depthEs]; omega
  intro x
  induction x using E.ind with
  | h hd l ih =>
  intro hs hd' L hL
  have hsz : ∀ y ∈ l, sizeE y ≤ B := fun y hy => by have := sizeEs_mem hy; rw [sizeE_mk] at hs; omega
  have hdp : ∀ y ∈ l, depthE y ≤ D := fun y hy => by have := depthEs_mem hy; rw [depthE_mk] at hd'; omega
  rw [lowE_mk]
  split
  · unfold aggM
    split
    · rename_i a c r
      exact putM_all (putM_all (putM_all (putM_all hL ⟨h0, Nat.zero_le _⟩) ⟨hdp c (by simp), hB⟩) ⟨hdp a (by simp), hB⟩) ⟨h0, hB⟩
    · exact hL
  · refine putM_all (lowEs_few l L (fun y hy => ih y hy (hsz y hy) (hdp y hy)) hL) ⟨?_, ?_⟩
    · show depthE (ownM hd l).expr ≤ D
      unfold ownM
      repeat' split
      all_goals first | exact hd' | exact h0
    · rw [own_inn, lowEs_ks]
      have := len_size l
      rw [sizeE_mk] at hs
      omega
theorem raiseM_ok {g : List Nd} (hsz : g.length ≤ 1048576) (hf : ∀ n ∈ g, FitN n) (hdp : ∀ n ∈ g, depthE n.expr ≤ 1048576) (h : (raiseM g).2 = 0) : shapeC (raiseM g).1 = 0 ∧ g = graphC (raiseM g).1 ∧ Fit (raiseM g).1 := by
  have key : ∀ r, raiseM g = r → r.2 = 0 → shapeC r.1 = 0 ∧ g = graphC r.1 ∧ Fit r.1 := by
    intro r hr h
    unfold raiseM at hr
    split at hr
    · subst hr; cases h
    · rename_i st hst
      split at hr
      · subst hr; cases h
      · rename_i hne
        split at hr
        · rename_i hq
          subst hr
          refine ⟨hq.1, hq.2, ?_⟩
          obtain ⟨ss, xs⟩ := st
          have hl := (raise_at hst).2.1
          have hpos : 0 < g.length := List.length_pos_iff.2 hne
          have hxl : xs.length - 1 < xs.length := by omega
          have : xs.getLastD exp0 = xs[xs.length - 1] := by
            rw [List.getLastD_eq_getLast?, List.getLast?_eq_getElem?, List.getElem?_eq_getElem hxl]; rfl
          simp only [this]
          exact (raise_fit hsz hf hdp hst _ (List.getElem_mem hxl)).1
        · subst hr; cases h
  exact key _ rfl h
set_option linter.defProp false in
def tbN60 := (And.intro (And.intro (And.intro (And.intro (And.intro (And.intro Ty.sz3 (And.intro Ty.by3 Ty.ag3)) (And.intro (And.intro Ty.zr3 Ty.un3) (And.intro Ty.sz9 Ty.by9))) (And.intro (And.intro Ty.ag9 (And.intro Ty.zr9 Ty.un9)) (And.intro (And.intro Ty.sz23 Ty.by23) (And.intro Ty.ag23 Ty.zr23)))) (And.intro (And.intro (And.intro Ty.fl23_0 (And.intro Ty.pl23_0 Ty.fl23_1)) (And.intro (And.intro Ty.pl23_1 Ty.fl23_2) (And.intro Ty.pl23_2 Ty.sz24))) (And.intro (And.intro (And.intro Ty.by24 Ty.ag24) (And.intro Ty.zr24 Ty.un24)) (And.intro (And.intro Ty.sz26 Ty.by26) (And.intro Ty.ag26 Ty.zr26))))) (And.intro (And.intro (And.intro (And.intro Ty.fl26_0 (And.intro Ty.pl26_0 Ty.fl26_1)) (And.intro (And.intro Ty.pl26_1 Ty.sz27) (And.intro Ty.by27 Ty.ag27))) (And.intro (And.intro (And.intro Ty.zr27 Ty.un27) (And.intro Ty.sz29 Ty.by29)) (And.intro (And.intro Ty.ag29 Ty.zr29) (And.intro Ty.fl29_0 Ty.pl29_0)))) (And.intro (And.intro (And.intro Ty.fl29_1 (And.intro Ty.pl29_1 Ty.fl29_2)) (And.intro (And.intro Ty.pl29_2 Ty.fl29_3) (And.intro Ty.pl29_3 Ty.fl29_4))) (And.intro (And.intro (And.intro Ty.pl29_4 Ty.fl29_5) (And.intro Ty.pl29_5 Ty.fl29_6)) (And.intro (And.intro Ty.pl29_6 Ty.fl29_7) (And.intro Ty.pl29_7 Ty.fl29_8)))))) (And.intro (And.intro (And.intro (And.intro (And.intro Ty.pl29_8 (And.intro Ty.sz31 Ty.by31)) (And.intro (And.intro Ty.ag31 Ty.zr31) (And.intro Ty.un31 Ty.sz33))) (And.intro (And.intro Ty.by33 (And.intro Ty.ag33 Ty.zr33)) (And.intro (And.intro Ty.fl33_0 Ty.pl33_0) (And.intro Ty.sz34 Ty.by34)))) (And.intro (And.intro (And.intro Ty.ag34 (And.intro Ty.zr34 Ty.un34)) (And.intro (And.intro Ty.sz41 Ty.by41) (And.intro Ty.ag41 Ty.zr41))) (And.intro (And.intro (And.intro Ty.un41 Ty.sz43) (And.intro Ty.by43 Ty.ag43)) (And.intro (And.intro Ty.zr43 Ty.fl43_0) (And.intro Ty.pl43_0 Ty.fl43_1))))) (And.intro (And.intro (And.intro (And.intro Ty.pl43_1 (And.intro Ty.fl43_2 Ty.pl43_2)) (And.intro (And.intro Ty.fl43_3 Ty.pl43_3) (And.intro Ty.fl43_4 Ty.pl43_4))) (And.intro (And.intro (And.intro Ty.fl43_5 Ty.pl43_5) (And.intro Ty.fl43_6 Ty.pl43_6)) (And.intro (And.intro Ty.fl43_7 Ty.pl43_7) (And.intro Ty.fl43_8 Ty.pl43_8)))) (And.intro (And.intro (And.intro Ty.sz48 (And.intro Ty.by48 Ty.ag48)) (And.intro (And.intro Ty.sz105 Ty.by105) (And.intro Ty.ag105 Ty.zr105))) (And.intro (And.intro (And.intro Ty.fl105_0 Ty.pl105_0) (And.intro Ty.fl105_1 Ty.pl105_1)) (And.intro (And.intro Ty.eq23 Ty.eq26) (And.intro Ty.eq105 Ty.cb12)))))))
theorem check_ok (g : List Nd) (hsz : g.length ≤ 1048576) (hf : ∀ n ∈ g, FitN n) (hdp : ∀ n ∈ g, depthE n.expr ≤ 1048576) (hin : ∀ n ∈ g, n.inn.length ≤ 1048576) : OkP Tryd.prog 13 [vG g] (vint (raiseM g).2) := by
  have hr := raise_ok g hsz hf hdp hin
  refine Ok.of_ex Ty.mixed Tryd.func13 rfl (by simp [Tryd.ntmps13]) (by kernel_rfl) fun F w0 I0 => ?_
  simp only [↓rA, rB, Int.reduceEq, Int.reduceLE, Int.reduceLT, Int.reduceToNat, Nat.reduceAdd, Nat.reduceEqDiff, Nat.reduceLT, Nat.reduceLeDiff, Nat.reduceMul, Nat.reduceSub, reduceCtorEq, tbN60, Tryd.results13]
  refine fun b1 h1 => ?_; replace h1 := newb h1; try simp only [Nb] at h1
  simp only [↓rA, rB, Int.reduceEq, Int.reduceLE, Int.reduceLT, Int.reduceToNat, Nat.reduceAdd, Nat.reduceEqDiff, Nat.reduceLT, Nat.reduceLeDiff, Nat.reduceMul, Nat.reduceSub, reduceCtorEq, tbN60, Tryd.results13, h1]
  refine OkF_of _ hr ?_
  simp only [↓rA, rB, Int.reduceEq, Int.reduceLE, Int.reduceLT, Int.reduceToNat, Nat.reduceAdd, Nat.reduceEqDiff, Nat.reduceLT, Nat.reduceLeDiff, Nat.reduceMul, Nat.reduceSub, reduceCtorEq, tbN60, Tryd.results13, h1]
  exact ret_done rfl
set_option linter.defProp false in
def tbN61 := (And.intro (And.intro (And.intro (And.intro (And.intro (And.intro (And.intro Ty.sz3 Ty.by3) (And.intro Ty.ag3 Ty.zr3)) (And.intro (And.intro Ty.un3 Ty.sz4) (And.intro Ty.by4 Ty.ag4))) (And.intro (And.intro (And.intro Ty.zr4 Ty.un4) (And.intro Ty.sz9 Ty.by9)) (And.intro (And.intro Ty.ag9 Ty.zr9) (And.intro Ty.un9 Ty.sz23)))) (And.intro (And.intro (And.intro (And.intro Ty.by23 Ty.ag23) (And.intro Ty.zr23 Ty.fl23_0)) (And.intro (And.intro Ty.pl23_0 Ty.fl23_1) (And.intro Ty.pl23_1 Ty.fl23_2))) (And.intro (And.intro (And.intro Ty.pl23_2 Ty.sz24) (And.intro Ty.by24 Ty.ag24)) (And.intro (And.intro Ty.zr24 Ty.un24) (And.intro Ty.sz26 (And.intro Ty.by26 Ty.ag26)))))) (And.intro (And.intro (And.intro (And.intro (And.intro Ty.zr26 Ty.fl26_0) (And.intro Ty.pl26_0 Ty.fl26_1)) (And.intro (And.intro Ty.pl26_1 Ty.sz27) (And.intro Ty.by27 Ty.ag27))) (And.intro (And.intro (And.intro Ty.zr27 Ty.un27) (And.intro Ty.sz29 Ty.by29)) (And.intro (And.intro Ty.ag29 Ty.zr29) (And.intro Ty.fl29_0 Ty.pl29_0)))) (And.intro (And.intro (And.intro (And.intro Ty.fl29_1 Ty.pl29_1) (And.intro Ty.fl29_2 Ty.pl29_2)) (And.intro (And.intro Ty.fl29_3 Ty.pl29_3) (And.intro Ty.fl29_4 Ty.pl29_4))) (And.intro (And.intro (And.intro Ty.fl29_5 Ty.pl29_5) (And.intro Ty.fl29_6 Ty.pl29_6)) (And.intro (And.intro Ty.fl29_7 Ty.pl29_7) (And.intro Ty.fl29_8 (And.intro Ty.pl29_8 Ty.sz31))))))) (And.intro (And.intro (And.intro (And.intro (And.intro (And.intro Ty.by31 Ty.ag31) (And.intro Ty.zr31 Ty.un31)) (And.intro (And.intro Ty.sz33 Ty.by33) (And.intro Ty.ag33 Ty.zr33))) (And.intro (And.intro (And.intro Ty.fl33_0 Ty.pl33_0) (And.intro Ty.sz34 Ty.by34)) (And.intro (And.intro Ty.ag34 Ty.zr34) (And.intro Ty.un34 Ty.sz35)))) (And.intro (And.intro (And.intro (And.intro Ty.by35 Ty.ag35) (And.intro Ty.sz41 Ty.by41)) (And.intro (And.intro Ty.ag41 Ty.zr41) (And.intro Ty.un41 Ty.sz43))) (And.intro (And.intro (And.intro Ty.by43 Ty.ag43) (And.intro Ty.zr43 Ty.fl43_0)) (And.intro (And.intro Ty.pl43_0 Ty.fl43_1) (And.intro Ty.pl43_1 (And.intro Ty.fl43_2 Ty.pl43_2)))))) (And.intro (And.intro (And.intro (And.intro (And.intro Ty.fl43_3 Ty.pl43_3) (And.intro Ty.fl43_4 Ty.pl43_4)) (And.intro (And.intro Ty.fl43_5 Ty.pl43_5) (And.intro Ty.fl43_6 Ty.pl43_6))) (And.intro (And.intro (And.intro Ty.fl43_7 Ty.pl43_7) (And.intro Ty.fl43_8 Ty.pl43_8)) (And.intro (And.intro Ty.sz48 Ty.by48) (And.intro Ty.ag48 Ty.sz105)))) (And.intro (And.intro (And.intro (And.intro Ty.by105 Ty.ag105) (And.intro Ty.zr105 Ty.fl105_0)) (And.intro (And.intro Ty.pl105_0 Ty.fl105_1) (And.intro Ty.pl105_1 Ty.eq23))) (And.intro (And.intro (And.intro Ty.eq26 Ty.eq105) (And.intro Ty.cb6 Ty.cb7)) (And.intro (And.intro Ty.cb11 Ty.cb12) (And.intro Ty.cb13 (And.intro Ty.cb14 Ty.cb15))))))))
theorem raises_ok (x : E) (g : List Nd) (hfx : Fit x) (hbx : depthE x ≤ big) (hsz : g.length ≤ 1048576) (hf : ∀ n ∈ g, FitN n) (hdp : ∀ n ∈ g, depthE n.expr ≤ 1048576) (hin : ∀ n ∈ g, n.inn.length ≤ 1048576) :
    OkP Tryd.prog 5 [vE x, vG g] (vbool true) := by
  have he := example_ok
  have hgx := graph_ok x hfx hbx
  have hgr := raise_ok g hsz hf hdp hin
  have hgc := check_ok g hsz hf hdp hin
  have hsm := small_ok g (by unfold big; omega) hf
  simp only [vE, cE_eq x] at hgx ⊢
  refine Ok.of_ex Ty.mixed Tryd.func5 rfl (by simp [Tryd.ntmps5]) (by kernel_rfl) fun F w0 I0 => ?_
  simp only [↓rA, rB, Int.reduceEq, Int.reduceLE, Int.reduceLT, Int.reduceToNat, Nat.reduceAdd, Nat.reduceEqDiff, Nat.reduceLT, Nat.reduceLeDiff, Nat.reduceMul, Nat.reduceSub, reduceCtorEq, tbN61, Tryd.results5]
  refine fun b2 h2 => ?_; replace h2 := newb h2; try simp only [Nb] at h2
  simp only [↓rA, rB, Int.reduceEq, Int.reduceLE, Int.reduceLT, Int.reduceToNat, Nat.reduceAdd, Nat.reduceEqDiff, Nat.reduceLT, Nat.reduceLeDiff, Nat.reduceMul, Nat.reduceSub, reduceCtorEq, tbN61, Tryd.results5, h2]
  refine fun b3 h3 => ?_; replace h3 := newb h3; try simp only [Nb] at h3
  simp only [↓rA, rB, Int.reduceEq, Int.reduceLE, Int.reduceLT, Int.reduceToNat, Nat.reduceAdd, Nat.reduceEqDiff, Nat.reduceLT, Nat.reduceLeDiff, Nat.reduceMul, Nat.reduceSub, reduceCtorEq, tbN61, Tryd.results5, h2, h3]
  refine OkF_of _ he ?_
  simp only [↓rA, rB, Int.reduceEq, Int.reduceLE, Int.reduceLT, Int.reduceToNat, Nat.reduceAdd, Nat.reduceEqDiff, Nat.reduceLT, Nat.reduceLeDiff, Nat.reduceMul, Nat.reduceSub, reduceCtorEq, tbN61, Tryd.results5, h2, h3]
  refine OkF_of _ hgx ?_
  simp only [↓rA, rB, Int.reduceEq, Int.reduceLE, Int.reduceLT, Int.reduceToNat, Nat.reduceAdd, Nat.reduceEqDiff, Nat.reduceLT, Nat.reduceLeDiff, Nat.reduceMul, Nat.reduceSub, reduceCtorEq, tbN61, Tryd.results5, h2, h3]
  refine fun b6 h6 => ?_; replace h6 := newb h6; try simp only [Nb] at h6
  have hsame := sameG_ok g g (by unfold big; omega) hf
  rw [decide_eq_true rfl] at hsame
  by_cases e : shapeC x = 0
  · have hG := graph_gr x hfx e
    obtain ⟨p1, p2, _⟩ := shape_parts e
    have hfew : ∀ n ∈ graphC x, depthE n.expr ≤ 64 ∧ n.inn.length ≤ 64 := by
      rw [graphC, if_pos e]
      exact low_few (by decide) (by decide) x p1 (by omega) [] fun n hn => by cases hn
    have hsm1 := hG.sm
    have r1 := raise_ok (graphC x) (by omega) hG.fit (fun n hn => by have := (hfew n hn).1; omega) (fun n hn => by have := (hfew n hn).2; omega)
    have r2 := check_ok (graphC x) (by omega) hG.fit (fun n hn => by have := (hfew n hn).1; omega) (fun n hn => by have := (hfew n hn).2; omega)
    have r3 := sameExprR_ok x hfx x
    rw [raise_graph x e] at r1 r2
    rw [decide_eq_true rfl] at r3
    simp only [vE, cE_eq x] at r1 r3
    simp only [↓rA, rB, Int.reduceEq, Int.reduceLE, Int.reduceLT, Int.reduceToNat, Nat.reduceAdd, Nat.reduceEqDiff, Nat.reduceLT, Nat.reduceLeDiff, Nat.reduceMul, Nat.reduceSub, reduceCtorEq, tbN61, Tryd.results5, h2, h3, h6, e]
    refine OkF_of _ r1 ?_
    simp only [↓rA, rB, Int.reduceEq, Int.reduceLE, Int.reduceLT, Int.reduceToNat, Nat.reduceAdd, Nat.reduceEqDiff, Nat.reduceLT, Nat.reduceLeDiff, Nat.reduceMul, Nat.reduceSub, reduceCtorEq, tbN61, Tryd.results5, h2, h3, h6]
    refine fun b8 h8 => ?_; replace h8 := newb h8; try simp only [Nb] at h8
    simp only [↓rA, rB, Int.reduceEq, Int.reduceLE, Int.reduceLT, Int.reduceToNat, Nat.reduceAdd, Nat.reduceEqDiff, Nat.reduceLT, Nat.reduceLeDiff, Nat.reduceMul, Nat.reduceSub, reduceCtorEq, tbN61, Tryd.results5, h2, h3, h6, h8]
    refine OkF_of _ r2 ?_
    simp only [↓rA, rB, Int.reduceEq, Int.reduceLE, Int.reduceLT, Int.reduceToNat, Nat.reduceAdd, Nat.reduceEqDiff, Nat.reduceLT, Nat.reduceLeDiff, Nat.reduceMul, Nat.reduceSub, reduceCtorEq, tbN61, Tryd.results5, h2, h3, h6, h8]
    refine OkF_of _ r3 ?_
    simp only [↓rA, rB, Int.reduceEq, Int.reduceLE, Int.reduceLT, Int.reduceToNat, Nat.reduceAdd, Nat.reduceEqDiff, Nat.reduceLT, Nat.reduceLeDiff, Nat.reduceMul, Nat.reduceSub, reduceCtorEq, tbN61, Tryd.results5, h2, h3, h6, h8]
    refine OkF_with [] _ (List.Perm.refl _) hsm ?_
    rintro v bs rs ⟨⟨b, rfl⟩, rfl, rfl⟩
    cases b
    · simp only [↓rA, rB, Int.reduceEq, Int.reduceLE, Int.reduceLT, Int.reduceToNat, Nat.reduceAdd, Nat.reduceEqDiff, Nat.reduceLT, Nat.reduceLeDiff, Nat.reduceMul, Nat.reduceSub, reduceCtorEq, tbN61, Tryd.results5, h2, h3, h6, h8]
      exact ret_done rfl
    simp only [↓rA, rB, Int.reduceEq, Int.reduceLE, Int.reduceLT, Int.reduceToNat, Nat.reduceAdd, Nat.reduceEqDiff, Nat.reduceLT, Nat.reduceLeDiff, Nat.reduceMul, Nat.reduceSub, reduceCtorEq, tbN61, Tryd.results5, h2, h3, h6, h8]
    refine OkF_of _ hgc ?_
    by_cases e2 : (raiseM g).2 = 0
    case neg =>
      simp only [↓rA, rB, Int.reduceEq, Int.reduceLE, Int.reduceLT, Int.reduceToNat, Nat.reduceAdd, Nat.reduceEqDiff, Nat.reduceLT, Nat.reduceLeDiff, Nat.reduceMul, Nat.reduceSub, reduceCtorEq, tbN61, Tryd.results5, h2, h3, h6, h8, e2]
      exact ret_done rfl
    obtain ⟨y1, y2, y3⟩ := raiseM_ok hsz hf hdp e2
    rw [e2] at hgr
    generalize (raiseM g).1 = y at y1 y2 y3 hgr
    have hgy := graph_ok y y3 (by have := (shape_parts y1).2.1; unfold big; omega)
    rw [y1, ← y2] at hgy
    simp only [vE, cE_eq y] at hgr hgy
    simp only [↓rA, rB, Int.reduceEq, Int.reduceLE, Int.reduceLT, Int.reduceToNat, Nat.reduceAdd, Nat.reduceEqDiff, Nat.reduceLT, Nat.reduceLeDiff, Nat.reduceMul, Nat.reduceSub, reduceCtorEq, tbN61, Tryd.results5, h2, h3, h6, h8, e2]
    refine OkF_of _ hgr ?_
    simp only [↓rA, rB, Int.reduceEq, Int.reduceLE, Int.reduceLT, Int.reduceToNat, Nat.reduceAdd, Nat.reduceEqDiff, Nat.reduceLT, Nat.reduceLeDiff, Nat.reduceMul, Nat.reduceSub, reduceCtorEq, tbN61, Tryd.results5, h2, h3, h6, h8]
    refine fun b10 h10 => ?_; replace h10 := newb h10; try simp only [Nb] at h10
    simp only [↓rA, rB, Int.reduceEq, Int.reduceLE, Int.reduceLT, Int.reduceToNat, Nat.reduceAdd, Nat.reduceEqDiff, Nat.reduceLT, Nat.reduceLeDiff, Nat.reduceMul, Nat.reduceSub, reduceCtorEq, tbN61, Tryd.results5, h2, h3, h6, h8, h10]
    refine OkF_of _ hgy ?_
    simp only [↓rA, rB, Int.reduceEq, Int.reduceLE, Int.reduceLT, Int.reduceToNat, Nat.reduceAdd, Nat.reduceEqDiff, Nat.reduceLT, Nat.reduceLeDiff, Nat.reduceMul, Nat.reduceSub, reduceCtorEq, tbN61, Tryd.results5, h2, h3, h6, h8, h10]
    refine fun b12 h12 => ?_; replace h12 := newb h12; try simp only [Nb] at h12
    simp only [↓rA, rB, Int.reduceEq, Int.reduceLE, Int.reduceLT, Int.reduceToNat, Nat.reduceAdd, Nat.reduceEqDiff, Nat.reduceLT, Nat.reduceLeDiff, Nat.reduceMul, Nat.reduceSub, reduceCtorEq, tbN61, Tryd.results5, h2, h3, h6, h8, h10, h12]
    refine OkF_of _ hsame ?_
    simp only [↓rA, rB, Int.reduceEq, Int.reduceLE, Int.reduceLT, Int.reduceToNat, Nat.reduceAdd, Nat.reduceEqDiff, Nat.reduceLT, Nat.reduceLeDiff, Nat.reduceMul, Nat.reduceSub, reduceCtorEq, tbN61, Tryd.results5]
    exact ret_done rfl
  simp only [↓rA, rB, Int.reduceEq, Int.reduceLE, Int.reduceLT, Int.reduceToNat, Nat.reduceAdd, Nat.reduceEqDiff, Nat.reduceLT, Nat.reduceLeDiff, Nat.reduceMul, Nat.reduceSub, reduceCtorEq, tbN61, Tryd.results5, h2, h3, h6, e]
  refine OkF_with [] _ (List.Perm.refl _) hsm ?_
  rintro v bs rs ⟨⟨b, rfl⟩, rfl, rfl⟩
  cases b
  · simp only [↓rA, rB, Int.reduceEq, Int.reduceLE, Int.reduceLT, Int.reduceToNat, Nat.reduceAdd, Nat.reduceEqDiff, Nat.reduceLT, Nat.reduceLeDiff, Nat.reduceMul, Nat.reduceSub, reduceCtorEq, tbN61, Tryd.results5, h2, h3, h6, e]
    exact ret_done rfl
  simp only [↓rA, rB, Int.reduceEq, Int.reduceLE, Int.reduceLT, Int.reduceToNat, Nat.reduceAdd, Nat.reduceEqDiff, Nat.reduceLT, Nat.reduceLeDiff, Nat.reduceMul, Nat.reduceSub, reduceCtorEq, tbN61, Tryd.results5, h2, h3, h6, e]
  refine OkF_of _ hgc ?_
  by_cases e2 : (raiseM g).2 = 0
  case neg =>
    simp only [↓rA, rB, Int.reduceEq, Int.reduceLE, Int.reduceLT, Int.reduceToNat, Nat.reduceAdd, Nat.reduceEqDiff, Nat.reduceLT, Nat.reduceLeDiff, Nat.reduceMul, Nat.reduceSub, reduceCtorEq, tbN61, Tryd.results5, h2, h3, h6, e, e2]
    exact ret_done rfl
  obtain ⟨y1, y2, y3⟩ := raiseM_ok hsz hf hdp e2
  rw [e2] at hgr
  generalize (raiseM g).1 = y at y1 y2 y3 hgr
  have hgy := graph_ok y y3 (by have := (shape_parts y1).2.1; unfold big; omega)
  rw [y1, ← y2] at hgy
  simp only [vE, cE_eq y] at hgr hgy
  simp only [↓rA, rB, Int.reduceEq, Int.reduceLE, Int.reduceLT, Int.reduceToNat, Nat.reduceAdd, Nat.reduceEqDiff, Nat.reduceLT, Nat.reduceLeDiff, Nat.reduceMul, Nat.reduceSub, reduceCtorEq, tbN61, Tryd.results5, h2, h3, h6, e, e2]
  refine OkF_of _ hgr ?_
  simp only [↓rA, rB, Int.reduceEq, Int.reduceLE, Int.reduceLT, Int.reduceToNat, Nat.reduceAdd, Nat.reduceEqDiff, Nat.reduceLT, Nat.reduceLeDiff, Nat.reduceMul, Nat.reduceSub, reduceCtorEq, tbN61, Tryd.results5, h2, h3, h6, e]
  refine fun b10 h10 => ?_; replace h10 := newb h10; try simp only [Nb] at h10
  simp only [↓rA, rB, Int.reduceEq, Int.reduceLE, Int.reduceLT, Int.reduceToNat, Nat.reduceAdd, Nat.reduceEqDiff, Nat.reduceLT, Nat.reduceLeDiff, Nat.reduceMul, Nat.reduceSub, reduceCtorEq, tbN61, Tryd.results5, h2, h3, h6, e, h10]
  refine OkF_of _ hgy ?_
  simp only [↓rA, rB, Int.reduceEq, Int.reduceLE, Int.reduceLT, Int.reduceToNat, Nat.reduceAdd, Nat.reduceEqDiff, Nat.reduceLT, Nat.reduceLeDiff, Nat.reduceMul, Nat.reduceSub, reduceCtorEq, tbN61, Tryd.results5, h2, h3, h6, e, h10]
  refine fun b12 h12 => ?_; replace h12 := newb h12; try simp only [Nb] at h12
  simp only [↓rA, rB, Int.reduceEq, Int.reduceLE, Int.reduceLT, Int.reduceToNat, Nat.reduceAdd, Nat.reduceEqDiff, Nat.reduceLT, Nat.reduceLeDiff, Nat.reduceMul, Nat.reduceSub, reduceCtorEq, tbN61, Tryd.results5, h2, h3, h6, e, h10, h12]
  refine OkF_of _ hsame ?_
  simp only [↓rA, rB, Int.reduceEq, Int.reduceLE, Int.reduceLT, Int.reduceToNat, Nat.reduceAdd, Nat.reduceEqDiff, Nat.reduceLT, Nat.reduceLeDiff, Nat.reduceMul, Nat.reduceSub, reduceCtorEq, tbN61, Tryd.results5]
  exact ret_done rfl
end Go.Proofs.YtphkmlogjgeipaaDoor

/- Graphs that come in. -/
set_option linter.unusedSimpArgs false
set_option maxRecDepth 100000
namespace Go.Proofs.YtphkmlogjgeipaaDoor
open Go.VL Go.Ar Go.Lo Go.RowKit Go.ChangeShapes Go.WideShapes Go.Proofs.YtphkmlogjgeipaaDoor
theorem LeL_append : ∀ {l l' m m' : List V}, LeL l l' → LeL m m' → LeL (l ++ m) (l' ++ m')
  | _, _, _, _, .nil, h => h
  | _, _, _, _, .cons h r, h' => .cons h (LeL_append r h')
theorem bulks_app (l m : List V) : V.bulks (l ++ m) = V.bulks l + V.bulks m := by
  induction l with
  | nil => simp [V.bulks]
  | cons x l ih => simp only [List.cons_append, V.bulks, ih]; omega
def okNd (n : Nd) : Prop := FitN n ∧ depthE n.expr ≤ 1048576 ∧ n.inn.length ≤ 1048576
theorem inv_node {d : Nat} {vs : List V} (hb : V.bulks vs ≤ 1048576) (h : TV Tryd.prog d 43 vs) : ∃ n : Nd, LeL vs (cNd n) ∧ okNd n := by
  cases d with
  | zero => exact h.elim
  | succ d =>
    simp only [TV, Tryd.underlying43, TVF] at h
    obtain ⟨x1, y1, rfl, h1, x2, y2, rfl, h2, x3, y3, rfl, h3, x4, y4, rfl, h4, x5, y5, rfl, h5, x6, y6, rfl, h6, x7, y7, rfl, h7, x8, y8, rfl, h8, x9, y9, rfl, h9, rfl⟩ := h
    obtain ⟨kind, rfl⟩ := inv_int h1
    obtain ⟨table, rfl⟩ := inv_str h2
    obtain ⟨op, rfl⟩ := inv_str h4
    obtain ⟨param, rfl⟩ := inv_int h5
    obtain ⟨wk, ws, rfl⟩ := inv_win h6
    obtain ⟨val, rfl⟩ := inv_val h7
    obtain ⟨name, rfl⟩ := inv_str h8
    obtain ⟨a, d', rfl, rfl⟩ := one_slice Ty.un41 h9
    simp only [bulks_app, List.cons_append, List.nil_append, V.bulks] at hb
    obtain ⟨e, e1, e2, e3⟩ := inv_expr _ x3 (by unfold big; omega) h3
    obtain ⟨ks, k1, k2, _⟩ := inv_list (m := 1048576) Ty.un41 (by kernel_rfl : Tryd.prog.cellsOf 3 = 1) (fun n : Int => [vint n]) (fun _ => True) (fun _ => 0) (fun vs _ h => by obtain ⟨x, rfl⟩ := inv_int h; exact ⟨x, LeL.refl _, trivial, Nat.zero_le _⟩) (fun _ => Nat.succ_pos _) h9 (by omega)
    refine ⟨⟨kind, table, e, op, param, wk, ws, val, name, ks⟩, ?_, ⟨e2, by simp only; unfold big; omega⟩, by simp only; omega, by simp only; omega⟩
    have he : cNd ⟨kind, table, e, op, param, wk, ws, val, name, ks⟩ = [vint kind, vstr table] ++ (cE e ++ [vstr op, vint param, vint wk, vint ws, vint val.kind, vint val.n, vstr val.s, vstr name, vints ks]) := by rw [cNd_eq, cE_eq]; rfl
    rw [he]
    simp only [List.cons_append, List.nil_append]
    exact .cons (Le.refl _) (.cons (Le.refl _) (LeL_append e1 (.cons (Le.refl _) (.cons (Le.refl _) (.cons (Le.refl _) (.cons (Le.refl _) (.cons (Le.refl _) (.cons (Le.refl _) (.cons (Le.refl _) (.cons (Le.refl _) (.cons k1 .nil)))))))))))
theorem in_graph {d : Nat} {a : V} (h : TA Tryd.prog d 33 a) (hb : V.bulkA a ≤ 1048576) : ∃ g : List Nd, Le a (vG g) ∧ g.length ≤ 1048576 ∧ ∀ n ∈ g, okNd n := by
  unfold TA at h
  simp only [Ty.ag33] at h
  obtain ⟨vs, rfl, h⟩ := h
  cases d with
  | zero => exact h.elim
  | succ d =>
    simp only [TV, Tryd.underlying33, TVF] at h
    obtain ⟨x1, y1, rfl, h1, rfl⟩ := h
    obtain ⟨v, d', rfl, rfl⟩ := one_slice Ty.un31 h1
    have hb' : V.bulk v ≤ 1048576 := by
      have : V.bulks ([v] ++ []) ≤ 1048576 := hb
      simp only [List.cons_append, List.nil_append, V.bulks] at this
      omega
    obtain ⟨l, l1, l2, l3⟩ := inv_list (m := 1048576) Ty.un31 (by kernel_rfl : Tryd.prog.cellsOf 43 = 23) cNd okNd (fun _ => 0) (fun vs hm h => by obtain ⟨n, q1, q2⟩ := inv_node hm h; exact ⟨n, q1, q2, Nat.zero_le _⟩) (fun n => by rw [cNd_len]; decide) h1 hb'
    exact ⟨l, leAgg (.cons l1 .nil), by omega, fun n hn => (l3 n hn).1⟩
theorem raises_in (x : E) (g : List Nd) (hfx : Fit x) (hbx : depthE x ≤ 1048576) (hsz : g.length ≤ 1048576) (hg : ∀ n ∈ g, okNd n) : OkP Tryd.prog 5 [vE x, vG g] (vbool true) :=
  raises_ok x g hfx (by unfold big; omega) hsz (fun n hn => (hg n hn).1) (fun n hn => (hg n hn).2.1) fun n hn => (hg n hn).2.2
end Go.Proofs.YtphkmlogjgeipaaDoor

/- Lowering: what the finals share. -/
set_option linter.unusedSimpArgs false
namespace Go.Proofs.YtphkmlogjgeipaaDoor
open Go.VL Go.Ar Go.Lo Go.ChangeShapes Go.WideShapes Go.ChangeAt Go.RowKit

theorem own : ownKnob Tryd.prog.godebug = none := by kernel_rfl
theorem laidOut : laidOutB Tryd.prog = true := by kernel_rfl
abbrev tysE : List TypeId := [29, 3, 9, 23, 24, 105, 26, 27, 33, 31, 43, 41]
theorem goodE : goodS Tryd.prog tysE = true := by kernel_rfl

abbrev wE : Value := .agg #[.int .i64 0, .string ⟨#[]⟩, .string ⟨#[]⟩, .string ⟨#[]⟩, .int .i64 0, .int .i64 0, .string ⟨#[]⟩, .slice none 0 0, .int .i64 0, .int .i64 0, .int .i64 0, .slice none 0 0]
abbrev dE {H : Type} : DataW H := .agg [.lit (.int .i64 0), .lit (.string []), .lit (.string []), .lit (.string []), .agg [.lit (.int .i64 0), .lit (.int .i64 0), .lit (.string [])], .nil, .lit (.int .i64 0), .agg [.lit (.int .i64 0), .lit (.int .i64 0)], .nil]
abbrev wG : Value := .agg #[.slice none 0 0]
abbrev dG {H : Type} : DataW H := .agg [.nil]
noncomputable def laidWorld (os : Os) : World := World.laidAll Tryd.prog os Rows.lowerSharesUptoRow.laid
theorem laid_met (os : Os) (args : Array Value) : laidMet Tryd.prog Rows.lowerSharesUptoRow.laid ((laidWorld os).forCall (fun _ _ => 0) ⟨#[], args, []⟩).memory :=
  laidMet_laidAll args (by kernel_rfl) (by kernel_rfl)
end Go.Proofs.YtphkmlogjgeipaaDoor

