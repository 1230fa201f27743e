/- Merged out of my text VZ. -/
import Derived.Test.YtopfanlkbepemaaGreatKVY
namespace Go.VL
open Go.RowKit
theorem Ok.mono {P f args bs} {Q Q':V→List (Nat × B)→List Row→Prop} (h:Ok P f args bs Q) (hq:∀ v bs' rs',Q v bs' rs'→Q' v bs' rs'):Ok P f args bs Q' :=
 fun w I xs hr hH=>(h w I xs hr hH).mono fun _ _ ⟨x,v,bs',rs',I',h1,h2,h3,h4,h5,h6⟩=>⟨x,v,bs',rs',I',h1,h2,h3,h4,h5,hq _ _ _ h6⟩
def callR (P:Program) (S:St) (d:Option Nat) (f:V) (args:List V) (K:St→Prop):Prop :=
 match f with
 | .lit (.func (.func g) first cap)=>callB P g=true∧Ok P g (first.toList.map .lit++args++cap.toList.map .lit) [] fun v bs rs=>bs=[]∧K ((S.setRows (rs++S.rows)).put d v)
 | _=>False
def callX (P:Program) (S:St) (d:Option Nat) (f:V) (args:List V) (K:St→Prop):Prop :=
 match f with
 | .lit (.func (.func g) first cap)=>callB P g=true∧∃ bs lf,S.boxes.Perm (bs++lf)∧Ok P g (first.toList.map .lit++args++cap.toList.map .lit) bs fun v bs' rs=>((bs'++lf).map (·.1)).Nodup→K (((S.setBoxes (bs'++lf)).setRows (rs++S.rows)).put d v)
 | .lit (.func (.yield l) first _)=>∃ bs lf,S.boxes.Perm (bs++lf)∧OkY P l (first.toList.map .lit++args) bs fun v bs' rs=>((bs'++lf).map (·.1)).Nodup→K (((S.setBoxes (bs'++lf)).setRows (rs++S.rows)).put d v)
 | _=>False
theorem OkY.mon {P:Program} {l:Nat} {zs:List V} {bs:List (Nat × B)} {Q Q':V→List (Nat × B)→List Row→Prop} (h:OkY P l zs bs Q) (hq:∀ v bs rs,Q v bs rs→Q' v bs rs):OkY P l zs bs Q' :=
 fun w I xs hr hH=>(h w I xs hr hH).mono fun _ _ ⟨x,v,bs',rs',I',h1,h2,h3,h4,h5,h6⟩=>⟨x,v,bs',rs',I',h1,h2,h3,h4,h5,hq _ _ _ h6⟩
def softD (hc:Option Bool) (o:Oper):Bool :=
 match o.op with
 | .alloc _ | .box _ _ | .store _ _ _ | .makeSlice _ _ _ | .makeMap _ _ | .lookup _ _ _ _ | .mapUpdate _ _ _ _ | .mapEntry _ _ _ | .entryStore _ _ _ _ | .range _ _ | .next _ _ | .entry _=>false
 | .call c=>match c.callee with
  | .builtin .append | .builtin .copy=>false
  | .value _=>hc.isNone
  | _=>true
 | .buildSlice _ _ _=>(match hc with | some true=>false | _=>true)
 | _=>true
def gHard (P:Program) (hc:Option Bool) (S:St) (o:Oper) (K:St→Prop):Prop :=
 match o.op with
 | .alloc t=>allocK P S o.dst t K
 | .box _ x=>boxK S o.dst (ev S.σ x) K
 | .store t p x=>storeK P S o.dst t (ev S.σ p) (ev S.σ x) K
 | .call c=>match c.callee with
  | .builtin .append=>match c.args.toList,c.argTypes.toList with
   | [s,x],[t,t']=>t'=t∧appendK P S o.dst t (ev S.σ s) (ev S.σ x) K
   | _,_=>False
  | .builtin .copy=>match c.args.toList,c.argTypes.toList with
   | [s,x],[t,t']=>copyK P S o.dst t t' (ev S.σ s) (ev S.σ x) K
   | _,_=>False
  | .value f=>match hc with
   | some true=>callX P S o.dst (ev S.σ f) (c.args.toList.map (ev S.σ)) K
   | _=>callR P S o.dst (ev S.σ f) (c.args.toList.map (ev S.σ)) K
  | _=>False
 | .buildSlice t n parts=>buildSliceK P S o.dst t n (parts.toList.map fun p=>(p.1,ev S.σ p.2)) K
 | _=>False
theorem buildSliceK_put {P:Program} {S:St} {d e:Option Nat} {v:V} {K:St→Prop} (hne:∀ i,d=some i→e ≠ some i) {t:TypeId} {n:Nat} {ps:List (Nat × V)}:buildSliceK P (S.put d v) e t n ps K=buildSliceK P S e t n ps fun S'=>K (S'.put d v):=by
 have:∀ (r:Row) u,K (((S.put d v).addRow r).put e u)=K (((S.addRow r).put e u).put d v):=fun r u=>swap_eq hne (S.addRow r) u
 unfold buildSliceK
 simp only [this]
theorem callR_put {P:Program} {S:St} {d e:Option Nat} {v:V} {K:St→Prop} (hne:∀ i,d=some i→e ≠ some i) {f:V} {as:List V}:callR P (S.put d v) e f as K=callR P S e f as fun S'=>K (S'.put d v):=by
 have:∀ (rs:List Row) u,K (((S.put d v).setRows rs).put e u)=K (((S.setRows rs).put e u).put d v):=fun rs u=>swap_eq hne (S.setRows rs) u
 unfold callR
 simp only [this];rfl
theorem callX_put {P:Program} {S:St} {d e:Option Nat} {v:V} {K:St→Prop} (hne:∀ i,d=some i→e ≠ some i) {f:V} {as:List V}:callX P (S.put d v) e f as K=callX P S e f as fun S'=>K (S'.put d v):=by
 have:∀ (bs:List (Nat × B)) (rs:List Row) u,K ((((S.put d v).setBoxes bs).setRows rs).put e u)=K ((((S.setBoxes bs).setRows rs).put e u).put d v):=fun bs rs u=>swap_eq hne ((S.setBoxes bs).setRows rs) u
 unfold callX
 simp only [this];rfl
theorem gHard_put {P:Program} {hc:Option Bool} {S:St} {d:Option Nat} {v:V} {K:St→Prop} {o:Oper} (hne:∀ i,d=some i→o.dst ≠ some i) (hev:∀ x ∈ o.op.operands.toList,ev (S.put d v).σ x=ev S.σ x):gHard P hc (S.put d v) o K=gHard P hc S o fun S'=>K (S'.put d v):=by
 obtain⟨e,op,ty,pos,af,gd⟩:=o
 cases op <;> simp only [gHard] <;> try rfl
 case alloc t=>exact allocK_put hne
 case box t x=>rw [hev x (by simp [Op.operands])];exact boxK_put hne
 case store t p x=>rw [hev p (by simp [Op.operands]),hev x (by simp [Op.operands])];exact storeK_put hne
 case buildSlice t n ps =>
  have:(ps.toList.map fun p=>(p.1,VL.ev (S.put d v).σ p.2))=ps.toList.map fun p=>(p.1,VL.ev S.σ p.2):=List.map_congr_left fun p hp=>by
   rw [hev p.2 (by simp only [Op.operands];simp;exact⟨p.1,by simpa using hp⟩)]
  rw [this];exact buildSliceK_put hne
 case call c =>
  have hargs:∀ x ∈ c.args.toList,ev (S.put d v).σ x=ev S.σ x:=fun x hx=>hev x (by simp only [Op.operands,Call.operands];simp;exact .inr (by simpa using hx))
  split
  ·split
   ·rename_i ha _
    rw [hargs _ (by simp [ha]),hargs _ (by simp [ha]),appendK_put hne]
   ·rfl
  ·split
   ·rename_i ha _
    rw [hargs _ (by simp [ha]),hargs _ (by simp [ha]),copyK_put hne]
   ·rfl
  ·rename_i hcl
   rw [map_ev hargs,hev _ (by simp [Op.operands,Call.operands,hcl])]
   split
   ·exact callX_put hne
   ·exact callR_put hne
  ·rfl
def growO (hc:Option Bool) (o:Oper):Bool:=match o.op with
 | .store _ _ _=>false
 | .call c=>match c.callee with | .builtin .copy=>false | .value _=>(match hc with | some true=>false | _=>true) | _=>true
 | _=>true
structure Kept (hc:Option Bool) (S S':St) (o:Oper):Prop where
 slots:∀ i,o.dst ≠ some i→S'.σ i=S.σ i
 boxes:growO hc o=true→BoxExt S S'
theorem put_slots (X:St) (d:Option Nat) (u:V) {i:Nat} (h:d ≠ some i):(X.put d u).σ i=X.σ i:=by simp [St.put,upd,h]
theorem getB_fresh {bs:List (Nat × B)} {b c:Nat} {zs cs:List V} (hb:b ∉ bs.map (·.1)) (h:getB bs c=some cs):getB ((b,.c zs)::bs) c=some cs:=by
 have hc:c ∈ bs.map (·.1):=List.mem_map.2 ⟨(c,.c cs),getB_mem h,rfl⟩
 have hne:c ≠ b:=fun e=>hb (e▸hc)
 simp [getB,hne,h]
theorem takeR_and {l:List Row} {y:Value} {L L':Row→List Row→Prop} (h:∀ r rs,L r rs→L' r rs):takeR l y L→takeR l y L':=by
 induction l generalizing L L' with
 | nil=>exact id
 | cons r rs ih=>exact fun hh=>hh.imp (fun hh=>⟨hh.1,h _ _ hh.2⟩) (ih fun r' rs'=>h r' (r::rs'))
theorem gHard_kept {P:Program} {hc:Option Bool} {S:St} {K:St→Prop} {o:Oper} (h:gHard P hc S o K):gHard P hc S o fun S'=>K S'∧Kept hc S S' o:=by
 obtain⟨e,op,ty,pos,af,gd⟩:=o
 have fresh:∀ (b:Nat) (zs:List V) u,b ∉ blks S.boxes S.rows→Kept hc S ((S.addBox b zs).put e u) ⟨e,op,ty,pos,af,gd⟩:=fun b zs u hb =>
  ⟨fun i hi=>put_slots _ _ _ hi,fun _ c cs hc=>getB_fresh (fun hm=>hb (List.mem_append.2 (.inl hm))) hc⟩
 have rows:∀ (X:St) u,X.boxes=S.boxes→X.σ=S.σ→Kept hc S (X.put e u) ⟨e,op,ty,pos,af,gd⟩:=fun X u hx hs =>
  ⟨fun i hi=>by rw [put_slots _ _ _ hi,hs],fun _ c cs hc=>by show getB X.boxes c=_;rw [hx];exact hc⟩
 cases op <;> simp only [gHard] at h ⊢ <;> try exact h
 case alloc t =>
  unfold allocK at h ⊢
  split at h
  ·exact⟨h.1,fun b hb=>⟨h.2 b hb,fresh b _ _ hb⟩⟩
  ·exact h.elim
 case box t x =>
  unfold boxK at h ⊢
  split at h
  ·exact⟨h.1,fun b hb=>⟨h.2 b hb,fresh b _ _ hb⟩⟩
  ·exact h.elim
 case store t p x =>
  unfold storeK at h ⊢
  split at h
  ·split at h
   ·exact⟨h.1,h.2.1,h.2.2.1,h.2.2.2,fun i hi=>put_slots _ _ _ hi,fun hg=>by simp [growO] at hg⟩
   ·exact h.elim
  ·exact h.elim
 case buildSlice t n ps =>
  unfold buildSliceK at h ⊢
  split at h
  ·split at h
   ·obtain⟨h1,h2,h3,es,h4,h5,h6⟩:=h
    exact⟨h1,h2,h3,es,h4,h5,fun y=>⟨h6 y,rows (S.addRow _) _ rfl rfl⟩⟩
   ·exact h.elim
  ·exact h.elim
 case call c =>
  split at h
  ·split at h
   ·refine⟨h.1,?_⟩
    have h:=h.2
    unfold appendK at h ⊢
    split at h
    ·split at h
     ·refine⟨h.1,?_⟩
      have h:=h.2
      have key:∀ fs k by_ ee s,appD S e k by_ ee s fs K→appD S e k by_ ee s fs fun S'=>K S'∧Kept hc S S' ⟨e,.call c,ty,pos,af,gd⟩:=fun fs k by_ ee s h=>by
       unfold appD at h ⊢
       split at h
       ·exact⟨h.1,fun y=>⟨h.2 y,rows (S.addRow _) _ rfl rfl⟩⟩
       ·exact⟨h.1,takeR_and (fun r rs h=>⟨h.1,fun y'=>⟨h.2 y',rows (S.setRows _) _ rfl rfl⟩⟩) h.2⟩
       ·exact h.elim
      unfold onL at h ⊢
      split at h
      ·exact⟨h.1,key _ _ _ _ _ h.2⟩
      ·exact key _ _ _ _ _ h
      ·exact h.elim
     ·exact h.elim
    ·exact h.elim
   ·exact h.elim
  ·rename_i hcl
   split at h
   ·unfold copyK at h ⊢
    split at h
    ·split at h
     ·refine srcK_imp h fun m fs h=>?_
      split at h
      ·exact⟨h,fun i hi=>put_slots _ _ _ hi,fun hg=>by simp [growO,hcl] at hg⟩
      ·split at h
       ·exact⟨h.1,h.2,fun i hi=>put_slots _ _ _ hi,fun hg=>by simp [growO,hcl] at hg⟩
       ·exact h.elim
      ·exact h.elim
     ·exact h.elim
    ·exact h.elim
   ·exact h.elim
  ·rename_i hcl
   split at h
   ·unfold callX at h ⊢
    split at h
    ·obtain⟨h1,bs,lf,h2,h3⟩:=h
     exact⟨h1,bs,lf,h2,Ok.mono h3 fun v bs' rs h hn=>⟨h hn,fun i hi=>put_slots _ _ _ hi,fun hg=>by simp [growO,hcl] at hg⟩⟩
    ·obtain⟨bs,lf,h2,h3⟩:=h
     exact⟨bs,lf,h2,h3.mon fun v bs' rs h hn=>⟨h hn,fun i hi=>put_slots _ _ _ hi,fun hg=>by simp [growO,hcl] at hg⟩⟩
    ·exact h.elim
   ·unfold callR at h ⊢
    split at h
    ·exact⟨h.1,Ok.mono h.2 fun v bs rs h=>⟨h.1,h.2,rows (S.setRows _) _ rfl rfl⟩⟩
    ·exact h.elim
  ·exact h.elim
end Go.VL
