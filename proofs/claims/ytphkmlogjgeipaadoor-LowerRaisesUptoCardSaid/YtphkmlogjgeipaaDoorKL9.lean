/- For every input of bulk at most 1048576 asoflaw19.LowerRaises returns true, and each argument reads behind the call as it read before; tied to the program's text. No further condition. -/
import Derived.Test.YtphkmlogjgeipaaDoorKd
import Derived.Test.YtphkmlogjgeipaaDoorCards
import Derived.Test.YtphkmlogjgeipaaDoorTie
import Derived.OpenShut
set_option linter.unusedVariables false
set_option linter.unusedSimpArgs false
namespace Go.Proofs.YtphkmlogjgeipaaDoor
open Go.VL Go.Ar Go.Lo Go.ChangeShapes Go.WideShapes Go.ChangeAt Go.RowKit

theorem reads (os : Os) {H : Type} (enc : TypeId × Value → H) : ∃ places, DataW.whole enc Tryd.prog ((laidWorld os).forCall (fun _ _ => 0) ⟨#[], #[wE, wG], []⟩).memory Tryd.f5.params.toList Rows.lowerRaisesSpec.vars false #[wE, wG].toList 8 = some ([dE, dG], [], places) :=
  ⟨[], by kernel_rfl⟩

set_option maxRecDepth 100000 in
theorem law_any (zs : List V) (h : TAxs Tryd.prog Tryd.f5.params.toList zs) (hb : V.bulkAs zs ≤ 1048576) : OkP Tryd.prog 5 zs (.lit (.bool true)) := by
  rw [Tryd.params5] at h
  obtain ⟨a0, r, d0, rfl, h0, h⟩ := h.cons
  obtain ⟨a1, r, d1, rfl, h1, h⟩ := h.cons
  obtain rfl := h.nil
  obtain ⟨x0, l0, f0, p0⟩ := in_expr h0 (Nat.le_trans (bulkAs_mem List.mem_cons_self) hb)
  obtain ⟨x1, l1, f1, p1⟩ := in_graph h1 (Nat.le_trans (bulkAs_mem (List.mem_cons_of_mem _ List.mem_cons_self)) hb)
  exact Ok.le (.cons l0 (.cons l1 .nil)) (raises_in x0 x1 f0 p0 f1 p1)

set_option maxRecDepth 100000 in
theorem lifted (os : Os) (started : os.Started) (H : Type) (enc : TypeId × Value → H) (F : Stop.Interp) :
    ReturnsInHanded {} Tryd.checked os 5 .any ((Rows.OpenSpec.upto Rows.lowerRaisesSpec).preRow enc Tryd.prog Tryd.f5 Rows.lowerRaisesUptoRow.domain false Rows.lowerRaisesUptoRow.laid) (((Rows.OpenSpec.upto Rows.lowerRaisesSpec).at F).post enc Tryd.prog Tryd.f5 false true false false) := by
  obtain ⟨places, hx⟩ := reads os enc
  refine returnsInHanded_of_row (C := Tryd.checked) (s := Rows.OpenSpec.upto Rows.lowerRaisesSpec) own started (by kernel_rfl) Tryd.func5
    (witness_row_atRef (enc := enc) (C := Tryd.checked) false (laidWorld os) #[wE, wG] (World.laidAll_os _ _ _) (by kernel_rfl) (by kernel_rfl) (by kernel_rfl)
      (OpenSpec.preRow_of_cond 8 hx (by kernel_rfl) (fun k hk => by cases hk; kernel_rfl) (by kernel_rfl) (laid_met os _))) ?_
  intro W base args ds gs before hval hW _ hk _ hL hsh _
  have hgs : gs = [] := by
    obtain ⟨p, q, _, hV, _⟩ := hW
    exact (trodVars_none hV).1
  subst hgs
  have hbulk : bulkDs ds ≤ 1048576 := by
    have h1 : Rows.uptoBulkAll (ds ++ []) ≤ 1048576 := of_decide_eq_true (hk _ rfl)
    rw [List.append_nil, bulks_eq] at h1
    exact h1
  refine law_postR (s := Rows.lowerRaisesSpec) (tb := 4) (T := tysE) rfl laidOut goodE ?_ rfl Ty.un4 hval hW ?_ (glob_of hL hsh) (fun zs h hz => law_any zs h (Nat.le_trans hz hbulk))
  · rw [Tryd.params5]
    intro t ht
    simp only [List.mem_cons, List.not_mem_nil, or_false] at ht
    rcases ht with rfl | rfl <;> exact ⟨by kernel_rfl, by kernel_rfl, of_decide_eq_true (by kernel_rfl)⟩
  · intro hl
    have hn : ds.length = 2 := hl
    match ds, hn with
    | [e0, e1], _ => rfl

theorem saidUpto : Rows.LowerRaisesUptoSaid :=
  OpenClaim.holds_of_cond 5 Tryd.f5 rfl rfl rfl rfl rfl rfl rfl ⟨rfl, rfl, rfl, rfl, rfl⟩ rfl rfl rfl rfl rfl (by kernel_rfl) Tryd.func5 (by kernel_rfl)
    (of_decide_eq_true (by kernel_rfl)) (by unfold Func.isWrapper; first | (rw [if_pos (by decide +kernel)]; kernel_rfl) | (rw [if_neg (by decide +kernel)]; exact ⟨rfl, rfl⟩))
    (fun os started H enc _ F => by rw [OpenClaim.pre_eq_preRow]; exact lifted os started H enc F)
theorem plain (f : FuncId) (fn : Func) (hf : Tryd.pinned.checked.prog.funcNamed "asof/asoflaw19.LowerRaises" = some f) (hfn : Tryd.pinned.checked.prog.funcs[f]? = some fn) :
    false = Tryd.pinned.checked.prog.looks [] ∧ ∀ (j : Nat) t, fn.params[j]? = some t → Tryd.pinned.checked.prog.wantsStandIn t = false := by
  obtain rfl : f = 5 := Option.some.inj ((show Tryd.prog.funcNamed "asof/asoflaw19.LowerRaises" = some 5 by kernel_rfl).symm.trans hf) |>.symm
  obtain rfl : fn = Tryd.f5 := (Option.some.inj (Tryd.func5.symm.trans hfn)).symm
  refine ⟨by kernel_rfl, fun j t ht => ?_⟩
  rw [Tryd.params5] at ht
  have hm := Array.mem_of_getElem? ht
  simp only [List.mem_toArray, List.mem_cons, List.not_mem_nil, or_false] at hm
  rcases hm with rfl | rfl <;> exact (show Tryd.prog.wantsStandIn _ = false by kernel_rfl)
/-- For every input of bulk at most 1048576 asoflaw19.LowerRaises returns true; the input reads as it did. -/
theorem holds : Rows.LowerRaisesUptoCardSaid :=
  Claim7.holds_tied_plain_at .later [] _ _ _ _ saidUpto (fun _ h => by cases h) (by kernel_rfl) (fun _ h => by cases h) lowerRaisesUpto_row_tie rfl ⟨rfl, rfl⟩ (by kernel_rfl) rfl plain (by kernel_rfl)
end Go.Proofs.YtphkmlogjgeipaaDoor
