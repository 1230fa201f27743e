/- Merged out of my text VX. -/
import Derived.Test.YtopfanlkbepemaaGreatKV13
namespace Go.VL
open Go.RowKit
def Lin {α:Type} (X:(α→Prop)→Prop):Prop:=∀ K,X K→∃ a,K a∧∀ K':α→Prop,K' a→X K'
theorem Lin.pure {α:Type} (a:α):Lin fun K=>K a:=fun _ h=>⟨a,h,fun _ h=>h⟩
theorem Lin.no {α:Type}:Lin (α:=α) fun _=>False:=fun _ h=>h.elim
theorem Lin.comp {α β:Type} {X:(α→Prop)→Prop} {Y:α→(β→Prop)→Prop} (hX:Lin X) (hY:∀ a,Lin (Y a)):Lin fun K=>X fun a=>Y a K:=fun K h=>by
 obtain⟨a,ha,ra⟩:=hX _ h
 obtain⟨b,hb,rb⟩:=hY a K ha
 exact⟨b,hb,fun K' hk=>ra _ (rb K' hk)⟩
theorem Lin.and {α:Type} {X:(α→Prop)→Prop} (A:Prop) (h:Lin X):Lin fun K=>A∧X K:=fun K hh=>by
 obtain⟨a,ha,ra⟩:=h K hh.2
 exact⟨a,ha,fun K' hk=>⟨hh.1,ra K' hk⟩⟩
theorem Lin.onL {v:V} {n:Nat} {α:Type} {Y:List (List V)→(α→Prop)→Prop} (hY:∀ a,Lin (Y a)):Lin fun K=>onL v n fun es=>Y es K:=by
 unfold VL.onL
 split
 ·exact Lin.and _ (hY _)
 ·exact hY _
 ·exact Lin.no
theorem Lin.onS {v:V} {n:Nat} {α:Type} {Y:List (List V)→(α→Prop)→Prop} {Z:Nat→Nat→Nat→Nat→(α→Prop)→Prop} (hY:∀ a,Lin (Y a)) (hZ:∀ b o l c,Lin (Z b o l c)):Lin fun K=>onS v n (fun es=>Y es K) fun b o l c=>Z b o l c K:=by
 unfold VL.onS
 split
 ·exact hZ _ _ _ _
 ·exact Lin.onL hY
theorem Lin.bnd {x:Option V} {d:Nat} {α:Type} {Y:Nat→(α→Prop)→Prop} (hY:∀ a,Lin (Y a)):Lin fun K=>bnd x d fun n=>Y n K:=by
 unfold VL.bnd
 split
 ·exact hY _
 ·exact Lin.and _ (hY _)
 ·exact Lin.no
theorem Lin.shiftP {v:V} {off:Nat}:Lin (shiftP v off):=by
 unfold VL.shiftP
 split
 ·exact Lin.pure _
 ·exact Lin.pure _
 ·exact Lin.no
theorem Lin.atP {S:St} {v:V}:Lin (atP S v):=by
 unfold VL.atP
 split
 ·exact Lin.pure _
 ·split
  ·exact Lin.pure _
  ·exact Lin.no
 ·exact Lin.no
theorem Lin.nilK {v:V}:Lin (nilK v):=by
 unfold VL.nilK
 split
 ·exact Lin.pure _
 ·exact Lin.pure _
 ·exact Lin.pure _
 ·exact Lin.no
section
variable {P:Program}
theorem Lin.loadK {t:TypeId} {cs:List V}:Lin (loadK P t cs):=by
 unfold VL.loadK
 repeat' split
 all_goals first | exact Lin.pure _ | exact Lin.and _ (Lin.pure _) | exact Lin.no
theorem Lin.partK {t:TypeId} {cs:List V} {off:Nat}:Lin (partK P t cs off):=by
 unfold VL.partK
 repeat' split
 all_goals first | exact Lin.pure _ | exact Lin.and _ (Lin.pure _) | exact Lin.no
theorem Lin.fieldAddrK {s:TypeId} {f:Nat} {v:V}:Lin (fieldAddrK P s f v):=by
 unfold VL.fieldAddrK
 repeat' split
 all_goals first | exact Lin.shiftP | exact Lin.no
theorem Lin.fieldK {s:TypeId} {f:Nat} {v:V}:Lin (fieldK P s f v):=by
 unfold VL.fieldK
 repeat' split
 all_goals first | exact Lin.partK | exact Lin.no
theorem Lin.idxAddrK {t:TypeId} {v i:V}:Lin (idxAddrK P t v i):=by
 unfold VL.idxAddrK
 repeat' split
 all_goals first | exact Lin.no | exact Lin.onS (fun _=>Lin.and _ (Lin.and _ (Lin.pure _))) (fun _ _ _ _=>Lin.and _ (Lin.and _ (Lin.pure _))) | exact Lin.and _ (Lin.and _ Lin.shiftP)
theorem Lin.idxK {t:TypeId} {v i:V}:Lin (idxK P t v i):=by
 unfold VL.idxK
 repeat' split
 all_goals first | exact Lin.no | exact Lin.and _ (Lin.and _ (Lin.pure _)) | exact Lin.and _ (Lin.and _ Lin.partK)
theorem Lin.binK {op:BinOp} {t:TypeId} {x y:V}:Lin (binK P op t x y):=by
 unfold VL.binK
 split
 ·rintro K ⟨e,v,h1,h2,h3⟩;exact⟨_,h3,fun K' hk=>⟨e,v,h1,h2,hk⟩⟩
 ·rintro K ⟨h0,e,v,h1,h2,h3⟩;exact⟨_,h3,fun K' hk=>⟨h0,e,v,h1,h2,hk⟩⟩
 ·rintro K ⟨v,h1,h2,h3⟩;exact⟨_,h3,fun K' hk=>⟨v,h1,h2,hk⟩⟩
 ·rintro K ⟨v,h1,h2⟩;exact⟨_,h2,fun K' hk=>⟨v,h1,hk⟩⟩
 ·rintro K ⟨l,m,b,h1,h2,h3,h4⟩;exact⟨_,h4,fun K' hk=>⟨l,m,b,h1,h2,h3,hk⟩⟩
 ·exact Lin.no
theorem Lin.convK {s d:TypeId} {v:V}:Lin (convK P s d v):=by
 unfold VL.convK
 repeat' split
 all_goals first | exact Lin.pure _ | exact Lin.no
theorem Lin.lenK {t:TypeId} {v:V}:Lin (lenK P t v):=by
 unfold VL.lenK
 repeat' split
 all_goals first | exact Lin.pure _ | exact Lin.no | exact Lin.onS (fun _=>Lin.pure _) (fun _ _ _ _=>Lin.pure _)
theorem Lin.capK {t:TypeId} {v:V}:Lin (capK P t v):=by
 unfold VL.capK
 repeat' split
 all_goals first | exact Lin.pure _ | exact Lin.no
theorem Lin.sliceK {t:TypeId} {v:V} {lo hi mx:Option V}:Lin (sliceK P t v lo hi mx):=by
 unfold VL.sliceK
 repeat' split
 all_goals first
  | exact Lin.no
  | exact Lin.and _ (Lin.bnd fun _=>Lin.bnd fun _=>Lin.and _ (Lin.and _ (Lin.pure _)))
  | exact Lin.onS (fun _=>Lin.bnd fun _=>Lin.bnd fun _=>Lin.and _ (Lin.and _ (Lin.and _ (Lin.pure _)))) (fun _ _ _ _=>Lin.bnd fun _=>Lin.bnd fun _=>Lin.bnd fun _=>Lin.and _ (Lin.and _ (Lin.and _ (Lin.and _ (Lin.pure _)))))
theorem Lin.buildK {t:TypeId} {ps:List (Nat × V)}:Lin (buildK P t ps):=by
 unfold VL.buildK
 split
 ·rintro K ⟨cs,h1,h2⟩;exact⟨_,h2,fun K' hk=>⟨cs,h1,hk⟩⟩
 ·exact Lin.no
theorem Lin.callK {f:V} {as:List V}:Lin (callK P f as):=by
 unfold VL.callK
 split
 ·rintro K ⟨h0,v,h1,h2⟩;exact⟨_,h2,fun K' hk=>⟨h0,v,h1,hk⟩⟩
 ·exact Lin.no
theorem Lin.buildSliceD {t:TypeId} {n:Nat} {ps:List (Nat × V)}:Lin (buildSliceD P t n ps):=by
 unfold VL.buildSliceD
 repeat' split
 all_goals first
  | exact Lin.no
  | (rintro K ⟨h1,h2,h3,es,h4,h5,h6⟩;exact⟨_,h6,fun K' hk=>⟨h1,h2,h3,es,h4,h5,hk⟩⟩)
theorem Lin.detF {S:St} {o:Oper}:Lin (detF P S o):=by
 unfold VL.detF
 split
 ·exact Lin.pure _
 ·exact Lin.pure _
 ·split
  ·exact Lin.pure _
  ·exact Lin.no
 ·exact Lin.comp Lin.atP fun _=>Lin.loadK
 ·exact Lin.fieldAddrK
 ·exact Lin.fieldK
 ·exact Lin.idxAddrK
 ·exact Lin.idxK
 ·exact Lin.binK
 ·split
  ·rintro K ⟨v,h1,h2⟩;exact⟨_,h2,fun K' hk=>⟨v,h1,hk⟩⟩
  ·exact Lin.no
 ·exact Lin.convK
 ·repeat' split
  all_goals first | exact Lin.pure _ | exact Lin.no
 ·exact Lin.sliceK
 ·exact Lin.and _ Lin.buildK
 ·rintro K ⟨l,m,h1,h2,h3⟩;exact⟨_,h3,fun K' hk=>⟨l,m,h1,h2,hk⟩⟩
 ·exact Lin.nilK
 ·repeat' split
  all_goals first | exact Lin.lenK | exact Lin.capK | exact Lin.callK | exact Lin.pure _ | exact Lin.no
 ·exact Lin.no
theorem Lin.detG {S:St} {o:Oper}:Lin (detG P S o):=by
 unfold VL.detG
 split
 ·exact Lin.buildSliceD
 ·exact Lin.detF
def Lin1 {α:Type} (X:(α→Prop)→Prop):Prop:=∀ K,X K→∃ a,∀ K':α→Prop,X K'↔K' a
theorem Lin1.pure {α:Type} (a:α):Lin1 fun K=>K a:=fun _ _=>⟨a,fun _=>Iff.rfl⟩
theorem Lin1.no {α:Type}:Lin1 (α:=α) fun _=>False:=fun _ h=>h.elim
theorem Lin1.and {α:Type} {X:(α→Prop)→Prop} (A:Prop) (h:Lin1 X):Lin1 fun K=>A∧X K:=fun K hh=>by
 obtain⟨a,ha⟩:=h K hh.2
 exact⟨a,fun K'=>⟨fun h'=>(ha K').1 h'.2,fun h'=>⟨hh.1,(ha K').2 h'⟩⟩⟩
theorem Lin1.onL {v:V} {n:Nat} {α:Type} {Y:List (List V)→(α→Prop)→Prop} (hY:∀ a,Lin1 (Y a)):Lin1 fun K=>onL v n fun es=>Y es K:=by
 unfold VL.onL
 split
 ·exact Lin1.and _ (hY _)
 ·exact hY _
 ·exact Lin1.no
theorem Lin1.onS {v:V} {n:Nat} {α:Type} {Y:List (List V)→(α→Prop)→Prop} {Z:Nat→Nat→Nat→Nat→(α→Prop)→Prop} (hY:∀ a,Lin1 (Y a)) (hZ:∀ b o l c,Lin1 (Z b o l c)):Lin1 fun K=>onS v n (fun es=>Y es K) fun b o l c=>Z b o l c K:=by
 unfold VL.onS
 split
 ·exact hZ _ _ _ _
 ·exact Lin1.onL hY
theorem Lin1.bnd {x:Option V} {d:Nat} {α:Type} {Y:Nat→(α→Prop)→Prop} (hY:∀ a,Lin1 (Y a)):Lin1 fun K=>bnd x d fun n=>Y n K:=by
 unfold VL.bnd
 split
 ·exact hY _
 ·exact Lin1.and _ (hY _)
 ·exact Lin1.no
theorem Lin1.sliceK {P:Program} {t:TypeId} {v:V} {lo hi mx:Option V}:Lin1 (sliceK P t v lo hi mx):=by
 unfold VL.sliceK
 repeat' split
 all_goals first
  | exact Lin1.no
  | exact Lin1.and _ (Lin1.bnd fun _=>Lin1.bnd fun _=>Lin1.and _ (Lin1.and _ (Lin1.pure _)))
  | exact Lin1.onS (fun _=>Lin1.bnd fun _=>Lin1.bnd fun _=>Lin1.and _ (Lin1.and _ (Lin1.and _ (Lin1.pure _)))) (fun _ _ _ _=>Lin1.bnd fun _=>Lin1.bnd fun _=>Lin1.bnd fun _=>Lin1.and _ (Lin1.and _ (Lin1.and _ (Lin1.and _ (Lin1.pure _)))))
def BoxExt (S S':St):Prop:=∀ b cs,getB S.boxes b=some cs→getB S'.boxes b=some cs
theorem atP_frame {S S':St} {v:V} {K:List V→Prop} (hb:BoxExt S S') (h:atP S v K):atP S' v K:=by
 unfold VL.atP at h ⊢
 split at h
 ·exact h
 ·split at h
  ·rename_i e;simp only [hb _ _ e];exact h
  ·exact h.elim
 ·exact h.elim
theorem map_ev {σ σ':Nat→V} {l:List Operand} (h:∀ x ∈ l,ev σ' x=ev σ x):l.map (ev σ')=l.map (ev σ):=List.map_congr_left h
theorem opt_ev {σ σ':Nat→V} {x:Option Operand} (h:∀ y,x=some y→ev σ' y=ev σ y):x.map (ev σ')=x.map (ev σ):=by
 cases x with
 | none=>rfl
 | some y=>simp [h y rfl]
theorem detF_frame {S S':St} {o:Oper} {k:V→Prop} (hev:∀ x ∈ o.op.operands.toList,ev S'.σ x=ev S.σ x) (hb:BoxExt S S') (h:detF P S o k):detF P S' o k:=by
 obtain⟨d,op,ty,pos,af,gd⟩:=o
 cases op <;> simp only [VL.detF] at h ⊢ <;> try exact h
 case move x=>rw [hev x (by simp [Op.operands])];exact h
 case assign x=>rw [hev x (by simp [Op.operands])];exact h
 case pick c x y=>rw [hev c (by simp [Op.operands]),hev x (by simp [Op.operands]),hev y (by simp [Op.operands])];exact h
 case load t x=>rw [hev x (by simp [Op.operands])];exact atP_frame hb h
 case nilCheck x=>rw [hev x (by simp [Op.operands])];exact h
 case binOp b t x y t'=>rw [hev x (by simp [Op.operands]),hev y (by simp [Op.operands])];exact h
 case unOp b t x=>rw [hev x (by simp [Op.operands])];exact h
 case convert s t x=>rw [hev x (by simp [Op.operands])];exact h
 case makeFunc fn a b=>rw [map_ev (fun x hx=>hev x (by simp [Op.operands];exact .inl (by simpa using hx))),map_ev (fun x hx=>hev x (by simp [Op.operands];exact .inr (by simpa using hx)))];exact h
 case slice t x lo hi mx=>rw [hev x (by simp [Op.operands]),opt_ev (fun y hy=>hev y (by simp [Op.operands,hy])),opt_ev (x:=hi) (fun y hy=>hev y (by simp [Op.operands,hy])),opt_ev (x:=mx) (fun y hy=>hev y (by simp [Op.operands,hy]))];exact h
 case fieldAddr s x f=>rw [hev x (by simp [Op.operands])];exact h
 case field s x f=>rw [hev x (by simp [Op.operands])];exact h
 case indexAddr t x i=>rw [hev x (by simp [Op.operands]),hev i (by simp [Op.operands])];exact h
 case index t x i=>rw [hev x (by simp [Op.operands]),hev i (by simp [Op.operands])];exact h
 case extract x i=>rw [hev x (by simp [Op.operands])];exact h
 case build t ps =>
  have:(ps.toList.map fun p=>(p.1,ev S'.σ p.2))=ps.toList.map fun p=>(p.1,ev S.σ p.2):=List.map_congr_left fun p hp=>by
   rw [hev p.2 (by simp only [Op.operands];simp;exact⟨p.1,by simpa using hp⟩)]
  rw [this];exact h
 case call c =>
  have hargs:∀ x ∈ c.args.toList,ev S'.σ x=ev S.σ x:=fun x hx=>hev x (by simp only [Op.operands,Call.operands];simp;exact .inr (by simpa using hx))
  split at h
  ·split at h
   ·rename_i ha _
    rw [hargs _ (by simp [ha])];exact h
   ·exact h
  ·split at h
   ·rename_i ha _
    rw [hargs _ (by simp [ha])];exact h
   ·exact h
  ·rw [map_ev hargs];exact h
  ·rw [map_ev hargs];exact h
  ·rename_i hc
   rw [map_ev hargs,hev _ (by simp [Op.operands,Call.operands,hc])];exact h
  ·exact h
theorem detG_frame {S S':St} {o:Oper} {k:V→Prop} (hev:∀ x ∈ o.op.operands.toList,ev S'.σ x=ev S.σ x) (hb:BoxExt S S') (h:detG P S o k):detG P S' o k:=by
 obtain⟨d,op,ty,pos,af,gd⟩:=o
 cases op
 case buildSlice t n ps =>
  simp only [VL.detG] at h ⊢
  have:(ps.toList.map fun p=>(p.1,VL.ev S'.σ p.2))=ps.toList.map fun p=>(p.1,VL.ev S.σ p.2):=List.map_congr_left fun p hp=>by
   rw [hev p.2 (by simp only [Op.operands];simp;exact⟨p.1,by simpa using hp⟩)]
  rw [this];exact h
 all_goals exact detF_frame (P:=P) (k:=k) hev hb h
end
end Go.VL
