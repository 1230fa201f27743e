/- The V logic, part G: a law that returns true and leaves its arguments, out of its contract. -/
import Derived.Test.YtphkmlogjgeipaaGreatDoorVF
import Derived.WideKeyArgs
import Derived.Below
namespace Go.VL
open Go.RowKit Go.ChangeShapes Go.WideShapes

/-- An argument of a type. -/
def TA (P : Program) (d : Nat) (t : TypeId) (a : V) : Prop := match tag P t with
  | some true => ∃ vs, a = .agg vs ∧ TV P d t vs
  | some false => TV P d t [a]
  | none => False
def TAs (P : Program) (d : Nat) : List TypeId → List V → Prop
  | [], [] => True
  | t :: ts, a :: as => TA P d t a ∧ TAs P d ts as
  | _, _ => False
theorem TAs.cons {P : Program} {d : Nat} {t : TypeId} {ts : List TypeId} : ∀ {l : List V}, TAs P d (t :: ts) l → ∃ a r, l = a :: r ∧ TA P d t a ∧ TAs P d ts r
  | [], h => h.elim
  | a :: r, h => ⟨a, r, rfl, h.1, h.2⟩
theorem TAs.nil {P : Program} {d : Nat} : ∀ {l : List V}, TAs P d [] l → l = []
  | [], _ => rfl
  | _ :: _, h => h.elim
def V.bulkA : V → Nat
  | .agg vs => V.bulks vs
  | v => V.bulk v
def V.bulkAs : List V → Nat
  | [] => 0
  | v :: r => V.bulkA v + V.bulkAs r

section
variable {P : Program} {w : World} {I : Cells} {H : Type} {enc : TypeId × Value → H}

theorem arg_put (hI : ∀ b o x, w.cell? ⟨b, o, none⟩ = some x → I b o) {d : Nat} {t : TypeId} {v : Value} {dd : DataW H} {ps : List MemPlace} {r : Reach} {b0 base : Nat} {spare : Nat → Bool} {held : Bool}
    (hg : goodT P d t = true) (hok : Value.okWide P w r b0 t v) (h : DataW.Trod enc P w base spare held t v dd ps) : ∃ a, V.rep w I a v ∧ TA P d t a ∧ V.bulkA a ≤ bulkD dd := by
  obtain ⟨fuel, hf⟩ := h
  obtain ⟨vs, r1, t1, l1, o1, b1⟩ := trod_put hI d t fuel v.cells.toList (dd, ps) hg hf
  have hagg : (∃ cs, v = .agg cs) → tag P t = some true → ∃ a, V.rep w I a v ∧ TA P d t a ∧ V.bulkA a ≤ bulkD dd := fun ⟨cs, e⟩ ht => by
    subst e
    refine ⟨.agg vs, ?_, by unfold TA; simp only [ht]; exact ⟨vs, rfl, t1⟩, b1⟩
    simp only [V.rep]
    exact ⟨cs, rfl, by simpa [Value.cells] using r1⟩
  have hone : (∃ b, vs = [b]) → (∀ cs, v ≠ .agg cs) → tag P t = some false → (∀ b, vs = [b] → ∀ l, b ≠ .agg l) → ∃ a, V.rep w I a v ∧ TA P d t a ∧ V.bulkA a ≤ bulkD dd := fun ⟨a, e⟩ hv ht hna => by
    subst e
    have hc : v.cells.toList = [v] := by
      cases v <;> simp [Value.cells]
      rename_i cs; exact absurd rfl (hv cs)
    rw [hc] at r1
    simp only [V.reps, and_true] at r1
    refine ⟨a, r1, by unfold TA; simp only [ht]; exact t1, ?_⟩
    have : V.bulkA a = V.bulk a := by
      cases a <;> first | rfl | exact absurd rfl (hna _ rfl _)
    simp only [V.bulks] at b1
    omega
  cases d with
  | zero => simp [goodT] at hg
  | succ d =>
    unfold goodT at hg
    split at hg
    · rename_i hu
      simp only [TV, hu] at t1
      obtain ⟨b, rfl⟩ := t1
      refine hone ⟨_, rfl⟩ (fun cs e => ?_) (by simp [tag, hu]) (fun b e l => by cases e; intro h; cases h)
      subst e; simp [Value.okWide, hu, Cell.okWide, Cell.ok] at hok
    · rename_i k hu
      simp only [TV, hu] at t1
      obtain ⟨n, rfl, _⟩ := t1
      refine hone ⟨_, rfl⟩ (fun cs e => ?_) (by simp [tag, hu]) (fun b e l => by cases e; intro h; cases h)
      subst e; simp [Value.okWide, hu, Cell.okWide, Cell.ok] at hok
    · rename_i hu
      simp only [TV, hu] at t1
      obtain ⟨n, rfl, _⟩ := t1
      refine hone ⟨_, rfl⟩ (fun cs e => ?_) (by simp [tag, hu]) (fun b e l => by cases e; intro h; cases h)
      subst e; simp [Value.okWide, hu, Cell.okWide, Cell.ok] at hok
    · rename_i e hu
      simp only [TV, hu] at t1
      have hv : ∀ cs, v ≠ .agg cs := fun cs e => by subst e; simp [Value.okWide, hu, Cell.okWide, Cell.ok] at hok
      rcases t1 with rfl | ⟨es, rfl, _⟩
      · exact hone ⟨_, rfl⟩ hv (by simp [tag, hu]) (fun b e l => by cases e; intro h; cases h)
      · exact hone ⟨_, rfl⟩ hv (by simp [tag, hu]) (fun b e l => by cases e; intro h; cases h)
    · rename_i n e hu
      refine hagg ?_ (by simp [tag, hu])
      simp only [Value.okWide, hu] at hok
      obtain ⟨cs, h1, _⟩ := hok
      exact ⟨cs, h1⟩
    · rename_i fs hu
      refine hagg ?_ (by simp [tag, hu])
      simp only [Value.okWide, hu] at hok
      obtain ⟨cs, h1, _⟩ := hok
      exact ⟨cs, h1⟩
    · cases hg

theorem args_put (hI : ∀ b o x, w.cell? ⟨b, o, none⟩ = some x → I b o) {d : Nat} {r : Reach} {b0 base : Nat} {spare : Nat → Bool} {held : Bool} : ∀ {ts : List TypeId} {vs : List Value} {ds : List (DataW H)} {ps : List MemPlace},
    (∀ t ∈ ts, goodT P d t = true) → (∀ (j : Nat) t v, ts[j]? = some t → vs[j]? = some v → Value.okWide P w r b0 t v) → DataW.TrodAll enc P w base spare held ts vs ds ps →
    ∃ as, V.reps w I as vs ∧ TAs P d ts as ∧ V.bulkAs as ≤ bulkDs ds
  | [], vs, ds, ps, _, _, h => by
    obtain ⟨rfl, rfl, rfl⟩ := trodAll_nil h
    exact ⟨[], by simp [V.reps], trivial, by simp [V.bulkAs]⟩
  | t :: ts, vs, ds, ps, hg, hok, h => by
    obtain ⟨v, vs1, dd, ds1, a, b, rfl, rfl, rfl, h1, h2⟩ := trodAll_cons h
    obtain ⟨x, r1, t1, b1⟩ := arg_put hI (hg t List.mem_cons_self) (hok 0 t v rfl rfl) h1
    obtain ⟨xs, r2, t2, b2⟩ := args_put hI (fun t' ht' => hg t' (List.mem_cons_of_mem _ ht')) (fun j t' v' hj hv => hok (j + 1) t' v' (by simpa using hj) (by simpa using hv)) h2
    exact ⟨x :: xs, by simp only [V.reps]; exact ⟨r1, r2⟩, ⟨t1, t2⟩, by simp only [V.bulkAs, bulkDs]; omega⟩

theorem args_stay (hl : laidOutB P = true) {W W' : World} (hb : Below W.heap.size W W') {sp : Nat → Bool} : ∀ {ts : List TypeId} {vs : List Value} {ds : List (DataW H)} {ps : List MemPlace},
    (∀ t ∈ ts, P.readableRec t = true ∧ t < P.types.size) → (∀ p ∈ ps, p.block < W.heap.size) → (∀ p ∈ ps, sp p.block = true) → DataW.TrodAll enc P W 0 (fun _ => true) true ts vs ds ps → DataW.TrodAll enc P W' 0 sp true ts vs ds ps
  | [], vs, ds, ps, _, _, _, h => by
    obtain ⟨rfl, rfl, rfl⟩ := trodAll_nil h
    exact h
  | t :: ts, vs, ds, ps, hr, hlt, hsp, h => by
    obtain ⟨v, vs1, dd, ds1, a, b, rfl, rfl, rfl, h1, h2⟩ := trodAll_cons h
    refine ⟨a, b, ?_, ?_, rfl⟩
    · exact WideElems.Trod_stays hl (hr t List.mem_cons_self).1 (hr t List.mem_cons_self).2 h1 (fun p hp => hb.same (hlt p (List.mem_append.2 (.inl hp)))) fun p hp => hsp p (List.mem_append.2 (.inl hp))
    · exact args_stay hl hb (fun t' ht' => hr t' (List.mem_cons_of_mem _ ht')) (fun p hp => hlt p (List.mem_append.2 (.inr hp))) (fun p hp => hsp p (List.mem_append.2 (.inr hp))) h2
end

/-- A law's contract, put into the row's words. -/
theorem law_post {P : Program} {H : Type} {enc : TypeId × Value → H} {f : FuncId} {fn : Func} {s : ChangeSpec} {tb : TypeId} {d : Nat} {fresh handsOn : Bool} (hvars : s.vars = []) (hlaid : laidOutB P = true)
    (hgood : ∀ t ∈ fn.params.toList, goodT P d t = true ∧ P.readableRec t = true ∧ t < P.types.size) (hres : fn.resultTypes = #[tb]) (htb : P.underlying tb = some .bool)
    {W : World} {base : Nat} {args : Array Value} {ds gs : List (DataW H)} {before : List MemPlace}
    (hval : ∀ (j : Nat) t v, fn.params[j]? = some t → args[j]? = some v → Value.okWide P W .any base t v)
    (hW : DataW.Whole enc P fn.params.toList s.vars false W args.toList ds gs before)
    (hspec : ds.length = fn.params.size → s.fn H (ds ++ []) = { results := [.lit (.bool true)], args := ds })
    (hglob : Glob W fun b _ => b < W.heap.size)
    (law : ∀ as : List V, TAs P d fn.params.toList as → V.bulkAs as ≤ bulkDs ds → OkP P f as (.lit (.bool true))) :
    Calls P f args W fun e W' => ∃ v, e = .returned v ∧ s.post enc P fn false fresh handsOn false W args v W' := by
  have hlt := hW.lt
  have hW' := hW
  obtain ⟨p, q, hA, hV, rfl, _, _⟩ := hW
  rw [hvars] at hV
  obtain ⟨rfl, rfl⟩ := trodVars_none hV
  simp only [List.append_nil] at hlt hW'
  have hI : ∀ b o x, W.cell? ⟨b, o, none⟩ = some x → (fun b _ => b < W.heap.size : Cells) b o := fun b o x hx => by
    unfold World.cell? at hx
    show b < W.heap.size
    by_cases h : b < W.heap.size
    · exact h
    · rw [Array.getElem?_eq_none (by simpa using h)] at hx; simp at hx
  obtain ⟨as, r1, t1, b1⟩ := args_put (I := fun b _ => b < W.heap.size) hI (fun t ht => (hgood t ht).1) (fun j t v hj hv => hval j t v (by simpa using hj) (by simpa using hv)) hA
  have hlen : ds.length = fn.params.size := by
    have : ∀ {ts : List TypeId} {vs : List Value} {ds : List (DataW H)} {ps : List MemPlace}, DataW.TrodAll enc P W 0 (fun _ => true) true ts vs ds ps → ds.length = ts.length := by
      intro ts
      induction ts with
      | nil => intro vs ds ps h; obtain ⟨rfl, rfl, rfl⟩ := trodAll_nil h; rfl
      | cons t ts ih => intro vs ds ps h; obtain ⟨v, vs1, dd, ds1, a, b, rfl, rfl, rfl, _, h2⟩ := trodAll_cons h; simp [ih h2]
    simpa using this hA
  have hH : Heap W (fun b _ => b < W.heap.size) [] [] := ⟨by simp, by simp, by simp [blks], fun b o h => h, hglob⟩
  have ha : args.toList.toArray = args := by simp
  have key := law as t1 b1 W (fun b _ => b < W.heap.size) args.toList r1 hH
  rw [ha] at key
  refine key.mono fun e W' ⟨x, v, bs', rs', I', he, hv, hk, _, _, hQ⟩ => ?_
  obtain ⟨rfl, rfl, rfl⟩ := hQ
  simp only [V.rep] at hv
  subst hv
  refine ⟨_, he, ?_⟩
  have hb : Below W.heap.size W W' := ⟨hk.os, hk.tape, hk.output, hk.size, fun b hb => hk.block b ⟨hb, by simp⟩⟩
  have htr : ∀ (b : Nat) (sp : Nat → Bool) (hd : Bool), DataW.TrodAll enc P W' b sp hd fn.resultTypes.toList ((Value.bool true).resultList fn.resultTypes.size) [.lit (.bool true)] [] := fun b sp hd => by
    rw [hres]
    exact trodAll_mk1 ⟨1, by simp [DataW.trod, htb, Value.cells]⟩
  have hargs := args_stay hlaid hb (sp := fun b => decide (b < W.heap.size)) (fun t ht => (hgood t ht).2) hlt (fun p hp => by simpa using hlt p hp) hA
  refine ⟨ds, [], p, [], p, [], hW', ?_, ?_, ?_, ?_, fun h => by cases h⟩
  · rw [hspec hlen]; exact htr _ _ _
  · rw [hspec hlen]; exact hargs
  · rw [hspec hlen, hvars]; rfl
  · exact World.keptBut_mono (fun p hp => hp.elim) (hb.frame fun _ => False)

end Go.VL
