/- The V logic, part 12: append onto an owned row. -/
import Derived.Test.YtphkmlogjgeipaaGreatDoorV11
namespace Go.VL
open Go.RowKit

theorem one_cell' {x : Value} (h : one x) : x.oneCell' = true := by cases x <;> simp_all [one, Value.oneCell']

theorem run_append_zero {P : Program} {w : World} {t ty e : TypeId} {k : Nat} (ht : P.underlying t = some (.slice e)) (hk : tsz P e = some k) (base : Option Addr) (n cap : Nat) (hn : n ≤ cap) (a : Option Addr) (c : Nat) :
    (Builtin.append_ #[t, t] ty #[.slice base n cap, .slice a 0 c]).run P w = .ok (.slice base n cap) w := by
  cases a <;> cases base <;> simp [Builtin.append_, run_underlying ht, run_tsz hk, Builtin.lenOf, hn, Builtin.firstCells, loadCells, loadCellsFrom, storeCells]

theorem size_zc (z : Array Value) (n : Nat) : (Builtin.zeroCells z n).size = n * z.size := by simp [Builtin.zeroCells]

theorem ΓW.addNil {C S w I} (h : ΓW C S w I) (k : Nat) (hk : 0 < k) (e : TypeId) : ΓW C (S.addRow ⟨.slice none 0 0, k, e⟩) w I := by
  have hb : blks S.boxes ((⟨.slice none 0 0, k, e⟩ : Row) :: S.rows) = blks S.boxes S.rows := by simp only [blks, List.filterMap_cons, Row.blk, Value.ownBlock]
  refine ⟨⟨h.heap.bx, fun r hr => ?_, by rw [St.addRow, hb]; exact h.heap.nodup, h.heap.inn, h.heap.glob⟩, by rw [St.addRow, hb]; exact h.mine, h.keeps, h.lo⟩
  rcases List.mem_cons.1 hr with rfl | hr
  · exact ⟨hk, ⟨e, [], by simp [slen], .inl ⟨rfl, rfl⟩⟩, fun g hg => by simp [Value.ownBlock] at hg⟩
  · exact h.heap.rw r hr

end Go.VL
