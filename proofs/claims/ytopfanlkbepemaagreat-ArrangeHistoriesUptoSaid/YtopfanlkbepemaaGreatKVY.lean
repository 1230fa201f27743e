/- Merged out of my text VY. -/
import Derived.Test.YtopfanlkbepemaaGreatKVX
namespace Go.VL
open Go.RowKit
section
variable {P:Program} {S:St} {d e:Option Nat} {v:V} {K:St→Prop} (hne:∀ i,d=some i→e ≠ some i)
include hne
theorem swap_eq (S:St) (u:V):K ((S.put d v).put e u)=K ((S.put e u).put d v):=by rw [put_comm S v u hne]
theorem allocK_put {t:TypeId}:allocK P (S.put d v) e t K=allocK P S e t fun S'=>K (S'.put d v):=by
 unfold allocK
 split
 ·have:∀ b z,K (((S.put d v).addBox b z).put e (.lit (.pointer (some ⟨b,0,none⟩))))=K (((S.addBox b z).put e (.lit (.pointer (some ⟨b,0,none⟩)))).put d v):=fun b z=>swap_eq hne (S.addBox b z) _
  simp only [this];rfl
 ·rfl
theorem boxK_put {x:V}:boxK (S.put d v) e x K=boxK S e x fun S'=>K (S'.put d v):=by
 unfold boxK
 split
 ·have:∀ b z,K (((S.put d v).addBox b z).put e (.lit (.pointer (some ⟨b,0,none⟩))))=K (((S.addBox b z).put e (.lit (.pointer (some ⟨b,0,none⟩)))).put d v):=fun b z=>swap_eq hne (S.addBox b z) _
  simp only [this];rfl
 ·rfl
theorem storeK_put {t:TypeId} {p x:V}:storeK P (S.put d v) e t p x K=storeK P S e t p x fun S'=>K (S'.put d v):=by
 unfold storeK
 split
 ·rename_i b o
  have hb:getB (S.put d v).boxes b=getB S.boxes b:=rfl
  rw [hb]
  split
  ·rename_i cs vs n _ _ _
   have:K (({ S.put d v with boxes:=setB (S.put d v).boxes b (cs.take o++vs++cs.drop (o+n)) }:St).put e .any)=K ((({ S with boxes:=setB S.boxes b (cs.take o++vs++cs.drop (o+n)) }:St).put e .any).put d v) :=
    swap_eq hne { S with boxes:=setB S.boxes b (cs.take o++vs++cs.drop (o+n)) } .any
   rw [this]
  ·rfl
 ·rfl
theorem appendK_put {t:TypeId} {s x:V}:appendK P (S.put d v) e t s x K=appendK P S e t s x fun S'=>K (S'.put d v):=by
 have key:∀ fs k by_ ee,appD (S.put d v) e k by_ ee s fs K=appD S e k by_ ee s fs fun S'=>K (S'.put d v):=fun fs k by_ ee=>by
  unfold appD
  split
  ·have:∀ (r:Row) u,K (((S.put d v).addRow r).put e u)=K (((S.addRow r).put e u).put d v):=fun r u=>swap_eq hne (S.addRow r) u
   simp only [this]
  ·have:∀ (rs:List Row) u,K (((S.put d v).setRows rs).put e u)=K (((S.setRows rs).put e u).put d v):=fun rs u=>swap_eq hne (S.setRows rs) u
   simp only [this];rfl
  ·rfl
 unfold appendK
 simp only [key]
theorem copyK_put {t tx:TypeId} {s x:V}:copyK P (S.put d v) e t tx s x K=copyK P S e t tx s x fun S'=>K (S'.put d v):=by
 have h1:∀ (bs:List (Nat × B)) u,K (((S.put d v).setBoxes bs).put e u)=K (((S.setBoxes bs).put e u).put d v):=fun bs u=>swap_eq hne (S.setBoxes bs) u
 have h2:∀ u,K ((S.put d v).put e u)=K ((S.put e u).put d v):=swap_eq hne S
 unfold copyK
 simp only [h1,h2]
 rfl
end
end Go.VL
