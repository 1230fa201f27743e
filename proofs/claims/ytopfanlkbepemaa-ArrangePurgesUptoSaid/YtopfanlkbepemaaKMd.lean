/- For every input of bulk at most 1048576 asoflaw22.ArrangePurges returns true, and each argument reads behind the call as it read before. No further condition. -/
import Derived.Test.YtopfanlkbepemaaKd
set_option linter.unusedVariables false
set_option linter.unusedSimpArgs false
namespace Go.Proofs.Ytopfanlkbepemaa
open Go.VL Go.Ar Go.ChangeShapes Go.WideShapes Go.ChangeAt Go.RowKit

theorem Try.own : ownKnob Try.prog.godebug = none := by kernel_rfl
theorem Try.laidOut : laidOutB Try.prog = true := by kernel_rfl

set_option maxRecDepth 100000 in
theorem law_any (zs : List V) (h : TAs Try.prog 12 Try.f7.params.toList zs) (hb : V.bulkAs zs ≤ 1048576) : OkP Try.prog 7 zs (.lit (.bool true)) := by
  rw [Try.params7] at h
  obtain ⟨a0, r, rfl, h0, h⟩ := h.cons
  obtain ⟨a1, r, rfl, h1, h⟩ := h.cons
  obtain ⟨a2, r, rfl, h2, h⟩ := h.cons
  obtain ⟨a3, r, rfl, h3, h⟩ := h.cons
  obtain ⟨a4, r, rfl, h4, h⟩ := h.cons
  obtain rfl := h.nil
  obtain ⟨x0, l0, p0⟩ := in_arr h0 (Nat.le_trans (bulkAs_mem List.mem_cons_self) hb)
  obtain ⟨x1, l1, p1⟩ := in_ids h1 (Nat.le_trans (bulkAs_mem (List.mem_cons_of_mem _ List.mem_cons_self)) hb)
  obtain ⟨x2, rfl⟩ := in_int h2
  obtain ⟨x3, rfl⟩ := in_str h3
  obtain ⟨x4, rfl⟩ := in_int h4
  exact Ok.le (.cons (l0) (.cons (l1) (.cons (Le.refl _) (.cons (Le.refl _) (.cons (Le.refl _) .nil))))) (purges_ok x0 x1 x2 x3 x4 p0 p1)

set_option maxRecDepth 100000 in
theorem lifted (os : Os) (started : os.Started) (H : Type) (enc : TypeId × Value → H) (F : Stop.Interp) :
    ReturnsInHanded {} Try.checked os 7 .any ((Rows.OpenSpec.upto Rows.arrangePurgesSpec).pre6 enc Try.prog Try.f7 [] false) (((Rows.OpenSpec.upto Rows.arrangePurgesSpec).at F).post enc Try.prog Try.f7 false true false false) := by
  refine returnsInHanded_of_cond (C := Try.checked) (s := Rows.OpenSpec.upto Rows.arrangePurgesSpec) (k := Rows.uptoSmall) rfl Try.own started (by kernel_rfl) Try.func7
    (OpenSpec.witness (enc := enc) (C := Try.checked) (s := Rows.OpenSpec.upto Rows.arrangePurgesSpec) (k := Rows.uptoSmall) rfl false ⟨#[], #[.agg #[.int .i64 0, .slice none 0 0], .slice none 0 0, .int .i64 0, .string ⟨#[]⟩, .int .i64 0], []⟩ 8 (by kernel_rfl) (by kernel_rfl) (by kernel_rfl)
      (x := ([.agg [.lit (.int .i64 0), .nil], .nil, .lit (.int .i64 0), .lit (.string []), .lit (.int .i64 0)], [], [])) (by kernel_rfl) rfl rfl) ?_
  intro W base args ds gs before hval hW _ hk _
  have hgs : gs = [] := by
    obtain ⟨p, q, _, hV, _⟩ := hW
    exact (trodVars_none hV).1
  subst hgs
  have hbulk : bulkDs ds ≤ 1048576 := by
    have h1 : Rows.uptoBulkAll (ds ++ []) ≤ 1048576 := of_decide_eq_true hk
    rw [List.append_nil, bulks_eq] at h1
    exact h1
  refine law_post (s := Rows.arrangePurgesSpec) (tb := 4) (d := 12) rfl Try.laidOut ?_ rfl Ty.un4 hval hW ?_ (fun zs h hz => law_any zs h (Nat.le_trans hz hbulk))
  · rw [Try.params7]
    intro t ht
    simp only [List.mem_cons, List.not_mem_nil, or_false] at ht
    rcases ht with rfl | rfl | rfl | rfl | rfl <;> exact ⟨by kernel_rfl, by kernel_rfl, of_decide_eq_true (by kernel_rfl)⟩
  · intro hl
    have hn : ds.length = 5 := hl
    match ds, hn with
    | [d0, d1, d2, d3, d4], _ => rfl

/-- For every input of bulk at most 1048576 asoflaw22.ArrangePurges returns true; the input reads as it did. -/
theorem holds : Rows.ArrangePurgesUptoSaid :=
  OpenClaim.holds_of_cond 7 Try.f7 rfl rfl rfl rfl rfl rfl rfl ⟨rfl, rfl, rfl, rfl, rfl⟩ rfl rfl rfl rfl rfl (by kernel_rfl) Try.func7 (by kernel_rfl)
    (of_decide_eq_true (by kernel_rfl)) (by unfold Func.isWrapper; first | (rw [if_pos (by decide +kernel)]; kernel_rfl) | (rw [if_neg (by decide +kernel)]; exact ⟨rfl, rfl⟩))
    (fun os started H enc _ F => lifted os started H enc F)

end Go.Proofs.Ytopfanlkbepemaa
