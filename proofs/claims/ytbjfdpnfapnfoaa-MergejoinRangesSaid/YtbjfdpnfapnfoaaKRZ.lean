/- For every input asoflaw25.MergejoinRanges returns true, and each argument reads behind the call as it read before. No further condition. -/
import Derived.Test.YtbjfdpnfapnfoaaKb
import Derived.Test.YtbjfdpnfapnfoaaVG
import Derived.Test.YtbjfdpnfapnfoaaRows
import Derived.ProofKit
set_option linter.unusedSimpArgs false
set_option linter.unusedVariables false
set_option maxRecDepth 100000
namespace Go.Proofs.Ytbjfdpnfapnfoaa
open Go.VL Go.R1 Go.ChangeShapes Go.WideShapes Go.ChangeAt Go.RowKit

theorem Try.own : ownKnob Try.prog.godebug = none := by kernel_rfl
theorem Try.laidOut : laidOutB Try.prog = true := by kernel_rfl

theorem inv_int {d : Nat} {v : List V} (h : TV Try.prog d 3 v) : ∃ n, v = [vint n] := by
  cases d with
  | zero => exact h.elim
  | succ d =>
    simp only [TV, Ty.un3] at h
    obtain ⟨n, rfl, _⟩ := h
    exact ⟨n, rfl⟩
theorem inv_ints {d : Nat} {a : V} (h : TA Try.prog d 22 a) : ∃ xs, Le a (vints xs) := by
  unfold TA at h
  simp only [Ty.ag22] at h
  cases d with
  | zero => exact h.elim
  | succ d =>
    simp only [TV, Ty.un22] at h
    rcases h with h | ⟨es, h, hm, hes⟩
    · cases h
      exact ⟨[], Le.nil 1⟩
    · have hc : Try.prog.cellsOf 3 = 1 := by kernel_rfl
      rw [hc] at h
      cases h
      have : ∃ xs : List Int, es = xs.map fun x => [vint x] := by
        clear hc hm
        induction es with
        | nil => exact ⟨[], rfl⟩
        | cons e r ih =>
          obtain ⟨n, rfl⟩ := inv_int (hes e List.mem_cons_self)
          obtain ⟨xs, rfl⟩ := ih fun x hx => hes x (List.mem_cons_of_mem _ hx)
          exact ⟨n :: xs, rfl⟩
      obtain ⟨xs, rfl⟩ := this
      exact ⟨xs, Le.refl _⟩
theorem inv_win {d : Nat} {a : V} (h : TA Try.prog d 24 a) : ∃ k s, a = vwin k s := by
  unfold TA at h
  simp only [Ty.ag24] at h
  obtain ⟨vs, rfl, h⟩ := h
  cases d with
  | zero => exact h.elim
  | succ d =>
    simp only [TV, Try.underlying24, TVF] at h
    obtain ⟨x, y, rfl, hx, y1, y2, rfl, hy, rfl⟩ := h
    obtain ⟨k, rfl⟩ := inv_int hx
    obtain ⟨s, rfl⟩ := inv_int hy
    exact ⟨k, s, rfl⟩

theorem law_any (zs : List V) (h : TAs Try.prog 12 Try.f3.params.toList zs) : OkP Try.prog 3 zs (.lit (.bool true)) := by
  rw [Try.params3] at h
  obtain ⟨a, r, rfl, h0, h⟩ := h.cons
  obtain ⟨b, r, rfl, h1, h⟩ := h.cons
  obtain ⟨c, r, rfl, h2, h⟩ := h.cons
  obtain rfl := h.nil
  obtain ⟨xs, l0⟩ := inv_ints h0
  obtain ⟨k, s, rfl⟩ := inv_win h1
  obtain ⟨ts, l2⟩ := inv_ints h2
  exact Ok.le (.cons l0 (.cons (Le.refl _) (.cons l2 .nil))) (law_ok xs k s ts)

theorem lifted (os : Os) (started : os.Started) (H : Type) (enc : TypeId × Value → H) :
    ReturnsInHanded {} Try.checked os 3 .any (Rows.mergejoinRangesSpec.pre6 enc Try.prog Try.f3 Rows.mergejoinRangesRow.domain false) (Rows.mergejoinRangesSpec.post enc Try.prog Try.f3 false true false false) := by
  refine returnsInHanded_of_change (C := Try.checked) Try.own started (by kernel_rfl) Try.func3
    (ChangeSpec.witness6 (enc := enc) (C := Try.checked) false ⟨#[], #[.slice none 0 0, .agg #[.int .i64 0, .int .i64 0], .slice none 0 0], []⟩ 8 (by kernel_rfl) (by kernel_rfl) (by kernel_rfl) (by kernel_rfl)) ?_
  intro W base args ds gs before hval hW _ _
  have hgs : gs = [] := by
    obtain ⟨p, q, _, hV, _⟩ := hW
    exact (trodVars_none hV).1
  subst hgs
  refine law_post (tb := 4) (d := 12) rfl Try.laidOut ?_ rfl Ty.un4 hval hW ?_ (fun zs h _ => law_any zs h)
  · rw [Try.params3]
    intro t ht
    simp only [List.mem_cons, List.not_mem_nil, or_false] at ht
    rcases ht with rfl | rfl | rfl <;> exact ⟨by kernel_rfl, by kernel_rfl, of_decide_eq_true (by kernel_rfl)⟩
  · intro hl
    have h3 : ds.length = 3 := hl
    match ds, h3 with
    | [d1, d2, d3], _ => rfl

/-- For every input asoflaw25.MergejoinRanges returns true; the input reads as it did. -/
theorem holds : Rows.MergejoinRangesSaid :=
  OpenClaim.holds_of_wide 3 Try.f3 rfl rfl rfl rfl rfl rfl rfl ⟨rfl, rfl, rfl, rfl, rfl⟩ rfl rfl rfl rfl rfl (by kernel_rfl) Try.func3 (by kernel_rfl)
    (of_decide_eq_true (by kernel_rfl)) (by unfold Func.isWrapper; first | (rw [if_pos (by decide +kernel)]; kernel_rfl) | (rw [if_neg (by decide +kernel)]; exact ⟨rfl, rfl⟩))
    (fun os started H enc _ => lifted os started H enc)

end Go.Proofs.Ytbjfdpnfapnfoaa
