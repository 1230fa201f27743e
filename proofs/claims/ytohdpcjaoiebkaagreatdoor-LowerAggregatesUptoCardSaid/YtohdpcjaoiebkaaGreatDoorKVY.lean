/- Merged out of my text VY. -/
import Derived.Test.YtohdpcjaoiebkaaGreatDoorKVX
set_option linter.unusedSimpArgs false
set_option linter.unusedVariables false
namespace Go.VL
open Go.RowKit
section
variable {P:Program} {S:St} {d e:Option Nat} {v:V} {K:St→Prop} (hne:∀ i,d=some i→e ≠ some i)
include hne
theorem wO (S:St) (u:V):K ((S.put d v).put e u)=K ((S.put e u).put d v):=by rw [ZA S v u hne]
theorem qhd {t:TypeId}:ky P (S.put d v) e t K=ky P S e t fun S'=>K (S'.put d v):=by
 unfold ky
 split
 ·have:∀ b z,K (((S.put d v).addBox b z).put e (.lit (.pointer (some ⟨b,0,none⟩))))=K (((S.addBox b z).put e (.lit (.pointer (some ⟨b,0,none⟩)))).put d v):=fun b z=>wO hne (S.addBox b z) _
  simp only [this];rfl
 ·rfl
theorem qsi {t:TypeId} {x:V}:ue (S.put d v) e t x K=ue S e t x fun S'=>K (S'.put d v):=by
 unfold ue
 split
 ·have:∀ b z,K (((S.put d v).addBox b z).put e (.lit (.pointer (some ⟨b,0,none⟩))))=K (((S.addBox b z).put e (.lit (.pointer (some ⟨b,0,none⟩)))).put d v):=fun b z=>wO hne (S.addBox b z) _
  simp only [this];rfl
 ·rfl
theorem qd6 {t:TypeId} {p x:V}:xO P (S.put d v) e t p x K=xO P S e t p x fun S'=>K (S'.put d v):=by
 unfold xO
 split
 ·rename_i b o
  have hb:zu (S.put d v).boxes b=zu S.boxes b:=rfl
  rw [hb]
  split
  ·rename_i cs vs n _ _ _
   have:K (({ S.put d v with boxes:=xV (S.put d v).boxes b (cs.take o++vs++cs.drop (o+n)) }:St).put e .any)=K ((({ S with boxes:=xV S.boxes b (cs.take o++vs++cs.drop (o+n)) }:St).put e .any).put d v) :=
    wO hne { S with boxes:=xV S.boxes b (cs.take o++vs++cs.drop (o+n)) } .any
   rw [this]
  ·rfl
 ·rfl
theorem qdh {t:TypeId} {s x:V}:zh P (S.put d v) e t s x K=zh P S e t s x fun S'=>K (S'.put d v):=by
 have key:∀ fs k by_ ee,jl (S.put d v) e k by_ ee s fs K=jl S e k by_ ee s fs fun S'=>K (S'.put d v):=fun fs k by_ ee=>by
  unfold jl
  split
  ·have:∀ (r:Row) u,K (((S.put d v).addRow r).put e u)=K (((S.addRow r).put e u).put d v):=fun r u=>wO hne (S.addRow r) u
   simp only [this]
  ·have:∀ (rs:List Row) u,K (((S.put d v).setRows rs).put e u)=K (((S.setRows rs).put e u).put d v):=fun rs u=>wO hne (S.setRows rs) u
   simp only [this];rfl
  ·rfl
 unfold zh
 simp only [key]
theorem qmd {t tx:TypeId} {s x:V}:js P (S.put d v) e t tx s x K=js P S e t tx s x fun S'=>K (S'.put d v):=by
 have h1:∀ (bs:List (Nat × B)) u,K (((S.put d v).setBoxes bs).put e u)=K (((S.setBoxes bs).put e u).put d v):=fun bs u=>wO hne (S.setBoxes bs) u
 have h2:∀ u,K ((S.put d v).put e u)=K ((S.put e u).put d v):=wO hne S
 unfold js
 simp only [h1,h2]
 rfl
end
end Go.VL
