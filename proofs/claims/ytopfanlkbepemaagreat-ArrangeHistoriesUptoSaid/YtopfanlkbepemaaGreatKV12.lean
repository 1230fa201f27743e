/- Merged out of my text V12. -/
import Derived.Test.YtopfanlkbepemaaGreatKV11
namespace Go.VL
open Go.RowKit
theorem one_cell' {x:Value} (h:one x):x.oneCell'=true:=by cases x <;> simp_all [one,Value.oneCell']
theorem size_zc (z:Array Value) (n:Nat):(Builtin.zeroCells z n).size=n * z.size:=by simp [Builtin.zeroCells]
theorem ΓW.addNil {C S w I} (h:ΓW C S w I) (k:Nat) (hk:0 < k) (e:TypeId):ΓW C (S.addRow ⟨.slice none 0 0,k,e⟩) w I:=by
 have hb:blks S.boxes ((⟨.slice none 0 0,k,e⟩:Row)::S.rows)=blks S.boxes S.rows:=by simp only [blks,List.filterMap_cons,Row.blk,Value.ownBlock]
 refine⟨⟨h.heap.bx,fun r hr=>?_,by rw [St.addRow,hb];exact h.heap.nodup,h.heap.inn,h.heap.glob⟩,by rw [St.addRow,hb];exact h.mine,h.keeps,h.lo⟩
 rcases List.mem_cons.1 hr with rfl | hr
 ·exact⟨hk,⟨e,[],by simp [slen],.inl ⟨rfl,rfl⟩⟩,fun g hg=>by simp [Value.ownBlock] at hg⟩
 ·exact h.heap.rw r hr
end Go.VL
