/- Merged out of my text VX. -/
import Derived.Test.YtohdpcjaoiebkaaGreatDoorKV13
set_option linter.unusedSimpArgs false
set_option linter.unusedVariables false
namespace Go.VL
open Go.RowKit
def qO {α:Type} (X:(α→Prop)→Prop):Prop:=∀ K,X K→∃ a,K a∧∀ K':α→Prop,K' a→X K'
theorem qO.pure {α:Type} (a:α):qO fun K=>K a:=fun _ h=>⟨a,h,fun _ h=>h⟩
theorem qO.no {α:Type}:qO (α:=α) fun _=>False:=fun _ h=>h.elim
theorem qO.comp {α β:Type} {X:(α→Prop)→Prop} {Y:α→(β→Prop)→Prop} (hX:qO X) (hY:∀ a,qO (Y a)):qO fun K=>X fun a=>Y a K:=fun K h=>by
 obtain⟨a,ha,ra⟩:=hX _ h
 obtain⟨b,hb,rb⟩:=hY a K ha
 exact⟨b,hb,fun K' hk=>ra _ (rb K' hk)⟩
theorem qO.and {α:Type} {X:(α→Prop)→Prop} (A:Prop) (h:qO X):qO fun K=>A∧X K:=fun K hh=>by
 obtain⟨a,ha,ra⟩:=h K hh.2
 exact⟨a,ha,fun K' hk=>⟨hh.1,ra K' hk⟩⟩
theorem qO.onL {v:V} {n:Nat} {α:Type} {Y:List (List V)→(α→Prop)→Prop} (hY:∀ a,qO (Y a)):qO fun K=>onL v n fun es=>Y es K:=by
 unfold VL.onL
 split
 ·exact qO.and _ (hY _)
 ·exact hY _
 ·exact qO.no
theorem qO.onS {v:V} {n:Nat} {α:Type} {Y:List (List V)→(α→Prop)→Prop} {Z:Nat→Nat→Nat→Nat→(α→Prop)→Prop} (hY:∀ a,qO (Y a)) (hZ:∀ b o l c,qO (Z b o l c)):qO fun K=>onS v n (fun es=>Y es K) fun b o l c=>Z b o l c K:=by
 unfold VL.onS
 split
 ·exact hZ _ _ _ _
 ·exact qO.onL hY
theorem qO.bnd {x:Option V} {d:Nat} {α:Type} {Y:Nat→(α→Prop)→Prop} (hY:∀ a,qO (Y a)):qO fun K=>bnd x d fun n=>Y n K:=by
 unfold VL.bnd
 split
 ·exact hY _
 ·exact qO.and _ (hY _)
 ·exact qO.no
theorem qO.shiftP {v:V} {off:Nat}:qO (shiftP v off):=by
 unfold VL.shiftP
 split
 ·exact qO.pure _
 ·exact qO.pure _
 ·exact qO.no
theorem qO.atP {S:St} {v:V}:qO (atP S v):=by
 unfold VL.atP
 split
 ·exact qO.pure _
 ·split
  ·exact qO.pure _
  ·exact qO.no
 ·exact qO.no
theorem qO.nilK {v:V}:qO (nilK v):=by
 unfold VL.nilK
 split
 ·exact qO.pure _
 ·exact qO.pure _
 ·exact qO.pure _
 ·exact qO.no
section
variable {P:Program}
theorem qO.loadK {t:TypeId} {cs:List V}:qO (loadK P t cs):=by
 unfold VL.loadK
 repeat' split
 all_goals first | exact qO.pure _ | exact qO.and _ (qO.pure _) | exact qO.no
theorem qO.partK {t:TypeId} {cs:List V} {off:Nat}:qO (partK P t cs off):=by
 unfold VL.partK
 repeat' split
 all_goals first | exact qO.pure _ | exact qO.and _ (qO.pure _) | exact qO.no
theorem qO.fieldAddrK {bx:List (Nat × B)} {s:TypeId} {f:Nat} {v:V}:qO (fieldAddrK P bx s f v):=by
 unfold VL.fieldAddrK VL.zeroP
 repeat' split
 all_goals first | exact qO.shiftP | exact qO.no | exact qO.and _ (qO.pure _)
theorem qO.fieldK {s:TypeId} {f:Nat} {v:V}:qO (fieldK P s f v):=by
 unfold VL.fieldK
 repeat' split
 all_goals first | exact qO.partK | exact qO.no
theorem qO.idxAddrK {t:TypeId} {v i:V}:qO (idxAddrK P t v i):=by
 unfold VL.idxAddrK
 repeat' split
 all_goals first | exact qO.no | exact qO.onS (fun _=>qO.and _ (qO.and _ (qO.pure _))) (fun _ _ _ _=>qO.and _ (qO.and _ (qO.pure _))) | exact qO.and _ (qO.and _ qO.shiftP)
theorem qO.idxK {t:TypeId} {v i:V}:qO (idxK P t v i):=by
 unfold VL.idxK
 repeat' split
 all_goals first | exact qO.no | exact qO.and _ (qO.and _ (qO.pure _)) | exact qO.and _ (qO.and _ qO.partK)
theorem qO.binK {op:BinOp} {t:TypeId} {x y:V}:qO (binK P op t x y):=by
 unfold VL.binK
 split
 ·rintro K ⟨e,v,h1,h2,h3⟩;exact⟨_,h3,fun K' hk=>⟨e,v,h1,h2,hk⟩⟩
 ·rintro K ⟨h0,e,v,h1,h2,h3⟩;exact⟨_,h3,fun K' hk=>⟨h0,e,v,h1,h2,hk⟩⟩
 ·rintro K ⟨v,h1,h2,h3⟩;exact⟨_,h3,fun K' hk=>⟨v,h1,h2,hk⟩⟩
 ·rintro K ⟨v,h1,h2⟩;exact⟨_,h2,fun K' hk=>⟨v,h1,hk⟩⟩
 ·rintro K ⟨l,m,b,h1,h2,h3,h4⟩;exact⟨_,h4,fun K' hk=>⟨l,m,b,h1,h2,h3,hk⟩⟩
 ·exact qO.no
theorem qO.convK {s d:TypeId} {v:V}:qO (convK P s d v):=by
 unfold VL.convK
 repeat' split
 all_goals first | exact qO.pure _ | exact qO.no
theorem qO.lenK {t:TypeId} {v:V}:qO (lenK P t v):=by
 unfold VL.lenK
 repeat' split
 all_goals first | exact qO.pure _ | exact qO.no | exact qO.onS (fun _=>qO.pure _) (fun _ _ _ _=>qO.pure _)
theorem qO.capK {t:TypeId} {v:V}:qO (capK P t v):=by
 unfold VL.capK
 repeat' split
 all_goals first | exact qO.pure _ | exact qO.no
theorem qO.sliceK {t:TypeId} {v:V} {lo hi mx:Option V}:qO (sliceK P t v lo hi mx):=by
 unfold VL.sliceK
 repeat' split
 all_goals first
  | exact qO.no
  | exact qO.and _ (qO.bnd fun _=>qO.bnd fun _=>qO.and _ (qO.and _ (qO.pure _)))
  | exact qO.bnd fun _=>qO.bnd fun _=>qO.bnd fun _=>qO.and _ (qO.and _ (qO.and _ (qO.and _ (qO.pure _))))
  | exact qO.onS (fun _=>qO.bnd fun _=>qO.bnd fun _=>qO.and _ (qO.and _ (qO.and _ (qO.pure _)))) (fun _ _ _ _=>qO.bnd fun _=>qO.bnd fun _=>qO.bnd fun _=>qO.and _ (qO.and _ (qO.and _ (qO.and _ (qO.pure _)))))
theorem qO.buildK {t:TypeId} {ps:List (Nat × V)}:qO (buildK P t ps):=by
 unfold VL.buildK
 split
 ·rintro K ⟨cs,h1,h2⟩;exact⟨_,h2,fun K' hk=>⟨cs,h1,hk⟩⟩
 ·exact qO.no
theorem qO.callK {f:V} {as:List V}:qO (callK P f as):=by
 unfold VL.callK
 split
 ·rintro K ⟨h0,v,h1,h2⟩;exact⟨_,h2,fun K' hk=>⟨h0,v,h1,hk⟩⟩
 ·exact qO.no
theorem qO.buildSliceD {t:TypeId} {n:Nat} {ps:List (Nat × V)}:qO (buildSliceD P t n ps):=by
 unfold VL.buildSliceD
 repeat' split
 all_goals first
  | exact qO.no
  | (rintro K ⟨h1,h2,h3,es,h4,h5,h6⟩;exact⟨_,h6,fun K' hk=>⟨h1,h2,h3,es,h4,h5,hk⟩⟩)
theorem qO.detF {S:St} {o:Oper}:qO (detF P S o):=by
 unfold VL.detF
 split
 ·exact qO.pure _
 ·exact qO.pure _
 ·split
  ·exact qO.pure _
  ·exact qO.no
 ·exact qO.comp qO.atP fun _=>qO.loadK
 ·exact qO.fieldAddrK
 ·exact qO.fieldK
 ·exact qO.idxAddrK
 ·exact qO.idxK
 ·exact qO.binK
 ·split
  ·rintro K ⟨v,h1,h2⟩;exact⟨_,h2,fun K' hk=>⟨v,h1,hk⟩⟩
  ·exact qO.no
 ·exact qO.convK
 ·repeat' split
  all_goals first | exact qO.pure _ | exact qO.no
 ·exact qO.sliceK
 ·exact qO.and _ qO.buildK
 ·rintro K ⟨l,m,h1,h2,h3⟩;exact⟨_,h3,fun K' hk=>⟨l,m,h1,h2,hk⟩⟩
 ·exact qO.nilK
 ·repeat' split
  all_goals first | exact qO.lenK | exact qO.capK | exact qO.callK | exact qO.pure _ | exact qO.no
 ·exact qO.no
theorem qO.detG {S:St} {o:Oper}:qO (detG P S o):=by
 unfold VL.detG
 split
 ·exact qO.buildSliceD
 ·exact qO.detF
def qL {α:Type} (X:(α→Prop)→Prop):Prop:=∀ K,X K→∃ a,∀ K':α→Prop,X K'↔K' a
theorem qL.pure {α:Type} (a:α):qL fun K=>K a:=fun _ _=>⟨a,fun _=>Iff.rfl⟩
theorem qL.no {α:Type}:qL (α:=α) fun _=>False:=fun _ h=>h.elim
theorem qL.and {α:Type} {X:(α→Prop)→Prop} (A:Prop) (h:qL X):qL fun K=>A∧X K:=fun K hh=>by
 obtain⟨a,ha⟩:=h K hh.2
 exact⟨a,fun K'=>⟨fun h'=>(ha K').1 h'.2,fun h'=>⟨hh.1,(ha K').2 h'⟩⟩⟩
theorem qL.onL {v:V} {n:Nat} {α:Type} {Y:List (List V)→(α→Prop)→Prop} (hY:∀ a,qL (Y a)):qL fun K=>onL v n fun es=>Y es K:=by
 unfold VL.onL
 split
 ·exact qL.and _ (hY _)
 ·exact hY _
 ·exact qL.no
theorem qL.onS {v:V} {n:Nat} {α:Type} {Y:List (List V)→(α→Prop)→Prop} {Z:Nat→Nat→Nat→Nat→(α→Prop)→Prop} (hY:∀ a,qL (Y a)) (hZ:∀ b o l c,qL (Z b o l c)):qL fun K=>onS v n (fun es=>Y es K) fun b o l c=>Z b o l c K:=by
 unfold VL.onS
 split
 ·exact hZ _ _ _ _
 ·exact qL.onL hY
theorem qL.bnd {x:Option V} {d:Nat} {α:Type} {Y:Nat→(α→Prop)→Prop} (hY:∀ a,qL (Y a)):qL fun K=>bnd x d fun n=>Y n K:=by
 unfold VL.bnd
 split
 ·exact hY _
 ·exact qL.and _ (hY _)
 ·exact qL.no
theorem qL.sliceK {P:Program} {t:TypeId} {v:V} {lo hi mx:Option V}:qL (sliceK P t v lo hi mx):=by
 unfold VL.sliceK
 repeat' split
 all_goals first
  | exact qL.no
  | exact qL.and _ (qL.bnd fun _=>qL.bnd fun _=>qL.and _ (qL.and _ (qL.pure _)))
  | exact qL.bnd fun _=>qL.bnd fun _=>qL.bnd fun _=>qL.and _ (qL.and _ (qL.and _ (qL.and _ (qL.pure _))))
  | exact qL.onS (fun _=>qL.bnd fun _=>qL.bnd fun _=>qL.and _ (qL.and _ (qL.and _ (qL.pure _)))) (fun _ _ _ _=>qL.bnd fun _=>qL.bnd fun _=>qL.bnd fun _=>qL.and _ (qL.and _ (qL.and _ (qL.and _ (qL.pure _)))))
def XG (S S':St):Prop:=∀ b cs,zu S.boxes b=some cs→zu S'.boxes b=some cs
theorem qm3 {S S':St} {v:V} {K:List V→Prop} (hb:XG S S') (h:atP S v K):atP S' v K:=by
 unfold VL.atP at h ⊢
 split at h
 ·exact h
 ·split at h
  ·rename_i e;simp only [hb _ _ e];exact h
  ·exact h.elim
 ·exact h.elim
theorem Xc {σ σ':Nat→V} {l:List Operand} (h:∀ x ∈ l,ev σ' x=ev σ x):l.map (ev σ')=l.map (ev σ):=List.map_congr_left h
theorem qe3 {σ σ':Nat→V} {x:Option Operand} (h:∀ y,x=some y→ev σ' y=ev σ y):x.map (ev σ')=x.map (ev σ):=by
 cases x with
 | none=>rfl
 | some y=>simp [h y rfl]
theorem qgk {S S':St} {o:Oper} {k:V→Prop} (hev:∀ x ∈ o.op.operands.toList,ev S'.σ x=ev S.σ x) (hb:XG S S') (h:detF P S o k):detF P S' o k:=by
 obtain⟨d,op,ty,pos,af,gd⟩:=o
 cases op <;> simp only [VL.detF] at h ⊢ <;> try exact h
 case move x=>rw [hev x (by simp [Op.operands])];exact h
 case assign x=>rw [hev x (by simp [Op.operands])];exact h
 case pick c x y=>rw [hev c (by simp [Op.operands]),hev x (by simp [Op.operands]),hev y (by simp [Op.operands])];exact h
 case load t x=>rw [hev x (by simp [Op.operands])];exact qm3 hb h
 case nilCheck x=>rw [hev x (by simp [Op.operands])];exact h
 case binOp b t x y t'=>rw [hev x (by simp [Op.operands]),hev y (by simp [Op.operands])];exact h
 case unOp b t x=>rw [hev x (by simp [Op.operands])];exact h
 case convert s t x=>rw [hev x (by simp [Op.operands])];exact h
 case makeFunc fn a b=>rw [Xc (fun x hx=>hev x (by simp [Op.operands];exact .inl (by simpa using hx))),Xc (fun x hx=>hev x (by simp [Op.operands];exact .inr (by simpa using hx)))];exact h
 case slice t x lo hi mx=>rw [hev x (by simp [Op.operands]),qe3 (fun y hy=>hev y (by simp [Op.operands,hy])),qe3 (x:=hi) (fun y hy=>hev y (by simp [Op.operands,hy])),qe3 (x:=mx) (fun y hy=>hev y (by simp [Op.operands,hy]))];exact h
 case fieldAddr s x f=>rw [hev x (by simp [Op.operands])];exact h
 case field s x f=>rw [hev x (by simp [Op.operands])];exact h
 case indexAddr t x i=>rw [hev x (by simp [Op.operands]),hev i (by simp [Op.operands])];exact h
 case index t x i=>rw [hev x (by simp [Op.operands]),hev i (by simp [Op.operands])];exact h
 case extract x i=>rw [hev x (by simp [Op.operands])];exact h
 case build t ps =>
  have:(ps.toList.map fun p=>(p.1,ev S'.σ p.2))=ps.toList.map fun p=>(p.1,ev S.σ p.2):=List.map_congr_left fun p hp=>by
   rw [hev p.2 (by simp only [Op.operands];simp;exact⟨p.1,by simpa using hp⟩)]
  rw [this];exact h
 case call c =>
  have hargs:∀ x ∈ c.args.toList,ev S'.σ x=ev S.σ x:=fun x hx=>hev x (by simp only [Op.operands,Call.operands];simp;exact .inr (by simpa using hx))
  split at h
  ·split at h
   ·rename_i ha _
    rw [hargs _ (by simp [ha])];exact h
   ·exact h
  ·split at h
   ·rename_i ha _
    rw [hargs _ (by simp [ha])];exact h
   ·exact h
  ·rw [Xc hargs];exact h
  ·rw [Xc hargs];exact h
  ·rename_i hc
   rw [Xc hargs,hev _ (by simp [Op.operands,Call.operands,hc])];exact h
  ·exact h
theorem wK {S S':St} {o:Oper} {k:V→Prop} (hev:∀ x ∈ o.op.operands.toList,ev S'.σ x=ev S.σ x) (hb:XG S S') (h:detG P S o k):detG P S' o k:=by
 obtain⟨d,op,ty,pos,af,gd⟩:=o
 cases op
 case buildSlice t n ps =>
  simp only [VL.detG] at h ⊢
  have:(ps.toList.map fun p=>(p.1,VL.ev S'.σ p.2))=ps.toList.map fun p=>(p.1,VL.ev S.σ p.2):=List.map_congr_left fun p hp=>by
   rw [hev p.2 (by simp only [Op.operands];simp;exact⟨p.1,by simpa using hp⟩)]
  rw [this];exact h
 all_goals exact qgk (P:=P) (k:=k) hev hb h
end
end Go.VL
