/- Merged out of my text VW. -/
import Derived.Test.YtopfanlkbepemaaGreatKVZ
namespace Go.VL
open Go.RowKit
def gCore (P:Program) (hc:Option Bool) (o:Oper) (K:St→Prop) (S:St):Prop :=
 if softD hc o=true then detG P S o fun v=>K (S.put o.dst v) else gHard P hc S o K
def gStep (P:Program) (hc:Option Bool) (ops:Array Oper) (o:Oper) (K:St→Prop) (S:St):Prop :=
 match wantA ops S.σ o with
 | some true=>gCore P hc o K S
 | some false=>K (S.put o.dst skipV)
 | none=>False
theorem ev_of_looks {ops:Array Oper} {S S':St} {o o':Oper} (hs:∀ i,o'.dst ≠ some i→S'.σ i=S.σ i) (hl:∀ i,o'.dst=some i→i ∉ o.looksAt ops):∀ x ∈ o.op.operands.toList,ev S'.σ x=ev S.σ x:=by
 intro x hx
 cases x with
 | tmp t =>
  have ht:t ∈ Oper.tm o:=by
   simp only [Oper.tm,List.mem_filterMap]
   exact⟨.tmp t,hx,rfl⟩
  exact hs t fun e=>hl t e (tm_looks ht)
 | _=>rfl
theorem wantA_of_looks {ops:Array Oper} {S S':St} {o o':Oper} (hs:∀ i,o'.dst ≠ some i→S'.σ i=S.σ i) (hl:∀ i,o'.dst=some i→i ∉ o.looksAt ops):wantA ops S'.σ o=wantA ops S.σ o:=by
 unfold wantA
 cases hg:o.guard with
 | none=>rfl
 | some gw =>
  obtain⟨g,want⟩:=gw
  simp only []
  cases hd:(ops[g]?).bind (·.dst) with
  | none=>rfl
  | some t =>
   have hne:o'.dst ≠ some t:=fun e=>hl t e (by simp [Oper.looksAt,hg,hd])
   simp only []
   rw [hs t hne]
def memless (o:Oper):Bool:=match o.op with | .load _ _=>false | _=>true
theorem detG_memless {P:Program} {S S':St} {o:Oper} {k:V→Prop} (hm:memless o=true) (hev:∀ x ∈ o.op.operands.toList,ev S'.σ x=ev S.σ x) (h:detG P S o k):detG P S' o k:=by
 have h1:detG P ⟨S'.σ,S.boxes,S'.rows⟩ o k:=detG_frame (S:=S) (S':=⟨S'.σ,S.boxes,S'.rows⟩) hev (fun b cs h=>h) h
 obtain⟨d,op,ty,pos,af,gd⟩:=o
 cases op <;> first | exact h1 | (simp [memless] at hm)
theorem gHard_imp {P:Program} {hc:Option Bool} {S:St} {K K':St→Prop} {o:Oper} (h:gHard P hc S o K) (hk:∀ S',K S'→Kept hc S S' o→K' S'):gHard P hc S o K':=by
 replace h:=gHard_kept h
 obtain⟨e,op,ty,pos,af,gd⟩:=o
 cases op <;> simp only [gHard] at h ⊢ <;> try exact h
 case alloc t =>
  unfold allocK at h ⊢
  split at h
  ·exact⟨h.1,fun b hb=>hk _ (h.2 b hb).1 (h.2 b hb).2⟩
  ·exact h.elim
 case box t x =>
  unfold boxK at h ⊢
  split at h
  ·exact⟨h.1,fun b hb=>hk _ (h.2 b hb).1 (h.2 b hb).2⟩
  ·exact h.elim
 case store t p x =>
  unfold storeK at h ⊢
  split at h
  ·split at h
   ·exact⟨h.1,h.2.1,h.2.2.1,hk _ h.2.2.2.1 h.2.2.2.2⟩
   ·exact h.elim
  ·exact h.elim
 case buildSlice t n ps =>
  unfold buildSliceK at h ⊢
  split at h
  ·split at h
   ·obtain⟨h1,h2,h3,es,h4,h5,h6⟩:=h
    exact⟨h1,h2,h3,es,h4,h5,fun y=>hk _ (h6 y).1 (h6 y).2⟩
   ·exact h.elim
  ·exact h.elim
 case call c =>
  split at h
  ·split at h
   ·refine⟨h.1,?_⟩
    have h:=h.2
    unfold appendK at h ⊢
    split at h
    ·split at h
     ·refine⟨h.1,?_⟩
      have h:=h.2
      have key:∀ fs k by_ ee s,(appD S e k by_ ee s fs fun S'=>K S'∧Kept hc S S' ⟨e,.call c,ty,pos,af,gd⟩)→appD S e k by_ ee s fs K':=fun fs k by_ ee s h=>by
       unfold appD at h ⊢
       split at h
       ·exact⟨h.1,fun y=>hk _ (h.2 y).1 (h.2 y).2⟩
       ·exact⟨h.1,takeR_and (fun r rs h=>⟨h.1,fun y'=>hk _ (h.2 y').1 (h.2 y').2⟩) h.2⟩
       ·exact h.elim
      unfold onL at h ⊢
      split at h
      ·exact⟨h.1,key _ _ _ _ _ h.2⟩
      ·exact key _ _ _ _ _ h
      ·exact h.elim
     ·exact h.elim
    ·exact h.elim
   ·exact h.elim
  ·split at h
   ·unfold copyK at h ⊢
    split at h
    ·split at h
     ·refine srcK_imp h fun m fs h=>?_
      split at h
      ·exact hk _ h.1 h.2
      ·split at h
       ·exact⟨h.1,hk _ h.2.1 h.2.2⟩
       ·exact h.elim
      ·exact h.elim
     ·exact h.elim
    ·exact h.elim
   ·exact h.elim
  ·split at h
   ·unfold callX at h ⊢
    split at h
    ·obtain⟨h1,bs,lf,h2,h3⟩:=h
     exact⟨h1,bs,lf,h2,Ok.mono h3 fun v bs' rs h hn=>hk _ (h hn).1 (h hn).2⟩
    ·obtain⟨bs,lf,h2,h3⟩:=h
     exact⟨bs,lf,h2,h3.mon fun v bs' rs h hn=>hk _ (h hn).1 (h hn).2⟩
    ·exact h.elim
   ·unfold callR at h ⊢
    split at h
    ·exact⟨h.1,Ok.mono h.2 fun v bs rs h=>⟨h.1,hk _ h.2.1 h.2.2⟩⟩
    ·exact h.elim
  ·exact h.elim
def total (o:Oper):Bool:=o.guard.isNone && match o.op with | .move _ | .assign _=>true | _=>false
def isRow (o:Oper):Bool:=match o.op with | .buildSlice _ _ _=>true | .call c=>(match c.callee with | .builtin .append=>true | _=>false) | _=>false
def isRd (o:Oper):Bool:=o.guard.isNone && match o.op with | .slice _ _ _ _ _=>true | .load _ _=>true | .fieldAddr _ _ _=>true | .indexAddr _ _ _=>true | _=>false
theorem Lin1.atP {S:St} {v:V} {α:Type} {Y:List V→(α→Prop)→Prop} (hY:∀ a,Lin1 (Y a)):Lin1 fun K=>atP S v fun cs=>Y cs K:=by
 unfold VL.atP
 repeat' split
 all_goals first | exact Lin1.no | exact hY _ | exact Lin1.and _ (hY _)
theorem Lin1.shiftP {v:V} {off:Nat}:Lin1 (shiftP v off):=by
 unfold VL.shiftP
 repeat' split
 all_goals first | exact Lin1.no | exact Lin1.pure _
theorem Lin1.loadK {P:Program} {t:TypeId} {cs:List V}:Lin1 (loadK P t cs):=by
 unfold VL.loadK
 repeat' split
 all_goals first | exact Lin1.no | exact Lin1.pure _ | exact Lin1.and _ (Lin1.pure _)
theorem Lin1.fieldAddrK {P:Program} {s:TypeId} {f:Nat} {v:V}:Lin1 (fieldAddrK P s f v):=by
 unfold VL.fieldAddrK
 repeat' split
 all_goals first | exact Lin1.no | exact Lin1.shiftP
theorem Lin1.idxAddrK {P:Program} {t:TypeId} {v i:V}:Lin1 (idxAddrK P t v i):=by
 unfold VL.idxAddrK
 repeat' split
 all_goals first | exact Lin1.no | exact Lin1.and _ (Lin1.and _ Lin1.shiftP) | exact Lin1.onS (fun _=>Lin1.and _ (Lin1.and _ (Lin1.pure _))) (fun _ _ _ _=>Lin1.and _ (Lin1.and _ (Lin1.pure _)))
theorem isRd_lin {P:Program} {S:St} {o:Oper} (h:isRd o=true):Lin1 (detG P S o):=by
 obtain⟨e,op,ty,pos,af,gd⟩:=o
 cases op <;> simp only [isRd,Bool.and_false,Bool.false_eq_true] at h
 case slice t x lo hi mx=>exact Lin1.sliceK
 case load t a=>exact Lin1.atP fun _=>Lin1.loadK
 case fieldAddr s x f=>exact Lin1.fieldAddrK
 case indexAddr t x i=>exact Lin1.idxAddrK
theorem takeR_form:∀ {rows:List Row} {y:Value} {K:Row→List Row→Prop},takeR rows y K→∃ r rs,K r rs∧∀ K':Row→List Row→Prop,K' r rs→takeR rows y K'
 | r::rs,y,K,h=>by
  rcases h with⟨h1,h2⟩ | h
  ·exact⟨r,rs,h2,fun K' hk=>.inl ⟨h1,hk⟩⟩
  ·obtain⟨r',rs',h1,h2⟩:=takeR_form h
   exact⟨r',r::rs',h1,fun K' hk=>.inr (h2 _ hk)⟩
theorem rowForm {P:Program} {hc:Option Bool} {S:St} {o:Oper} {K:St→Prop} (hr:isRow o=true) (h:gHard P hc S o K) :
  ∃ F:Value→St,(∀ y,(F y).boxes=S.boxes∧∀ i,o.dst ≠ some i→(F y).σ i=S.σ i)∧(∀ y,K (F y))∧∀ K':St→Prop,(∀ y,K' (F y))→gHard P hc S o K':=by
 obtain⟨d,op,ty,pos,af,gd⟩:=o
 cases op <;> simp only [isRow,Bool.false_eq_true] at hr
 case buildSlice t n ps =>
  simp only [gHard] at h ⊢
  unfold buildSliceK at h ⊢
  split at h
  ·rename_i u1 hu1
   split at h
   ·rename_i u2 hu2 hu3
    obtain⟨q1,q2,q3,es,q4,q5,q6⟩:=h
    exact⟨fun y=>(S.addRow ⟨y,_,_⟩).put d _,fun y=>⟨rfl,fun i hi=>put_slots (S.addRow ⟨y,_,_⟩) _ _ hi⟩,q6,fun K' hk=>by first | exact⟨q1,q2,q3,es,q4,q5,hk⟩ | (simp only [hu1,hu2,hu3];exact⟨q1,q2,q3,es,q4,q5,hk⟩)⟩
   ·exact h.elim
  ·exact h.elim
 case call c =>
  obtain⟨callee,args,tys⟩:=c
  cases callee <;> simp only [Bool.false_eq_true] at hr
  case builtin b =>
   cases b <;> simp only [Bool.false_eq_true] at hr
   simp only [gHard] at h ⊢
   split at h
   ·rename_i s x t t' ha ht
    obtain⟨rfl,h⟩:=h
    unfold appendK at h
    split at h
    ·rename_i e hu
     split at h
     ·rename_i k by_ z hk hby hz
      obtain⟨hc0,h⟩:=h
      have key:∀ fs,appD S d k by_ e (ev S.σ s) fs K→∃ F:Value→St,(∀ y,(F y).boxes=S.boxes∧∀ i,d ≠ some i→(F y).σ i=S.σ i)∧(∀ y,K (F y))∧∀ K':St→Prop,(∀ y,K' (F y))→appD S d k by_ e (ev S.σ s) fs K':=by
       intro fs ha
       unfold appD at ha ⊢
       split at ha
       ·exact⟨fun y=>(S.addRow ⟨y,k,e⟩).put d _,fun y=>⟨rfl,fun i hi=>put_slots (S.addRow ⟨y,_,_⟩) _ _ hi⟩,ha.2,fun K' hk=>⟨ha.1,hk⟩⟩
       ·obtain⟨q1,q2⟩:=ha
        obtain⟨r,rs,q3,q4⟩:=takeR_form q2
        exact⟨fun y=>(S.setRows (⟨y,k,e⟩::rs)).put d _,fun y=>⟨rfl,fun i hi=>put_slots (S.setRows _) _ _ hi⟩,q3.2,fun K' hk=>⟨q1,q4 _ ⟨q3.1,hk⟩⟩⟩
       ·exact ha.elim
      unfold onL at h
      split at h
      ·rename_i own k' es hv
       obtain⟨q1,q2⟩:=h
       obtain⟨F,f1,f2,f3⟩:=key es q2
       refine⟨F,f1,f2,fun K' hkk=>⟨rfl,?_⟩⟩
       unfold appendK onL
       simp only [hu,hk,hby,hz,hv]
       exact⟨hc0,q1,f3 K' hkk⟩
      ·rename_i hv
       obtain⟨F,f1,f2,f3⟩:=key [] h
       refine⟨F,f1,f2,fun K' hkk=>⟨rfl,?_⟩⟩
       unfold appendK onL
       simp only [hu,hk,hby,hz,hv]
       exact⟨hc0,f3 K' hkk⟩
      ·exact h.elim
     ·exact h.elim
    ·exact h.elim
   ·exact h.elim
def mixB (hc:Option Bool) (oi oj:Oper):Bool :=
 ((softD hc oi && (softD hc oj || growO hc oj || memless oi)) || (!softD hc oi && softD hc oj && total oj)) || (!softD hc oi && softD hc oj && isRow oi && isRd oj)
theorem gCore_imp {P:Program} {hc:Option Bool} {S:St} {K K':St→Prop} {o:Oper} (h:gCore P hc o K S) (hk:∀ S',K S'→(∀ i,o.dst ≠ some i→S'.σ i=S.σ i)→(softD hc o=true∨growO hc o=true→BoxExt S S')→K' S'):gCore P hc o K' S:=by
 unfold gCore at h ⊢
 split at h
 ·rename_i hs
  rw [if_pos hs]
  obtain⟨v,hv,hr⟩:=Lin.detG _ h
  exact hr _ (hk _ hv (fun i hi=>put_slots _ _ _ hi) fun _ b cs hb=>hb)
 ·rename_i hs
  rw [if_neg hs]
  exact gHard_imp h fun S' h1 h2=>hk S' h1 h2.slots fun hg=>h2.boxes (hg.resolve_left hs)
theorem gCore_put {P:Program} {hc:Option Bool} {ops:Array Oper} {S:St} {d:Option Nat} {v:V} {K:St→Prop} {o:Oper} (hne:∀ i,d=some i→o.dst ≠ some i) (hl:∀ i,d=some i→i ∉ o.looksAt ops) :
  gCore P hc o K (S.put d v)↔gCore P hc o (fun S'=>K (S'.put d v)) S:=by
 have hev:∀ x ∈ o.op.operands.toList,ev (S.put d v).σ x=ev S.σ x:=ev_of_looks (o':=⟨d,o.op,o.type,o.pos,o.after,o.guard⟩) (fun i hi=>put_slots _ _ _ hi) hl
 unfold gCore
 split
 ·have sw:∀ u,K ((S.put d v).put o.dst u)↔K ((S.put o.dst u).put d v):=fun u=>by rw [put_comm S v u hne]
  constructor
  ·intro h
   obtain⟨u,hu,hr⟩:=Lin.detG _ (detG_frame (S:=S.put d v) (S':=S) (fun x hx=>(hev x hx).symm) (fun b cs h=>h) h)
   exact hr _ ((sw u).1 hu)
  ·intro h
   obtain⟨u,hu,hr⟩:=Lin.detG _ (detG_frame (S:=S) (S':=S.put d v) hev (fun b cs h=>h) h)
   exact hr _ ((sw u).2 hu)
 ·rw [gHard_put hne hev]
theorem detG_mono' {P:Program} {S:St} {o:Oper} {k k':V→Prop} (h:detG P S o k) (hk:∀ v,k v→k' v):detG P S o k':=by
 obtain⟨v,hv,hr⟩:=Lin.detG _ h
 exact hr _ (hk v hv)
theorem gStep_imp {P:Program} {hc:Option Bool} {ops:Array Oper} {S:St} {K K':St→Prop} {o:Oper} (h:gStep P hc ops o K S) (hk:∀ S',K S'→(∀ i,o.dst ≠ some i→S'.σ i=S.σ i)→(softD hc o=true∨growO hc o=true→BoxExt S S')→K' S'):gStep P hc ops o K' S:=by
 unfold gStep at h ⊢
 split at h
 ·exact gCore_imp h hk
 ·exact hk _ h (fun i hi=>put_slots _ _ _ hi) fun _ b cs hb=>hb
 ·exact h
theorem gStep_put {P:Program} {hc:Option Bool} {ops:Array Oper} {S:St} {d:Option Nat} {v:V} {K:St→Prop} {o:Oper} (hne:∀ i,d=some i→o.dst ≠ some i) (hl:∀ i,d=some i→i ∉ o.looksAt ops) :
  gStep P hc ops o K (S.put d v)↔gStep P hc ops o (fun S'=>K (S'.put d v)) S:=by
 unfold gStep
 rw [wantA_put hl]
 split
 ·exact gCore_put hne hl
 ·rw [put_comm S v skipV hne]
 ·exact Iff.rfl
theorem gStep_comm {P:Program} {hc:Option Bool} {ops:Array Oper} {oi oj:Oper} {K:St→Prop} {S:St} (hap:oi.apart ops oj=true) (hmx:mixB hc oi oj=true) (h:gStep P hc ops oi (gStep P hc ops oj K) S) :
  gStep P hc ops oj (gStep P hc ops oi K) S:=by
 obtain⟨h1,h2,h3⟩:=Oper.apart_spec hap
 have wi:∀ (S':St),(∀ i,oj.dst ≠ some i→S'.σ i=S.σ i)→wantA ops S'.σ oi=wantA ops S.σ oi:=fun S' hs=>wantA_of_looks (o':=oj) hs h3
 have evi:∀ (S':St),(∀ i,oj.dst ≠ some i→S'.σ i=S.σ i)→∀ x ∈ oi.op.operands.toList,ev S'.σ x=ev S.σ x:=fun S' hs=>ev_of_looks (o':=oj) hs h3
 have h2':∀ i,oj.dst=some i→oi.dst ≠ some i:=fun i hi e=>h2 i e hi
 unfold mixB at hmx
 simp only [Bool.or_eq_true,Bool.and_eq_true,Bool.not_eq_true'] at hmx
 rcases hmx with(⟨hs,hmx⟩ | ⟨⟨hs,hsj⟩,ht⟩) | ⟨⟨⟨hs,hsj⟩,hbs⟩,hsl⟩
 ·
  have h':=h
  unfold gStep at h'
  split at h'
  ·rename_i hw
   unfold gCore at h'
   rw [if_pos hs] at h'
   obtain⟨v,hv,hr⟩:=Lin.detG _ h'
   have hv':gStep P hc ops oj K (S.put oi.dst v):=hv
   rw [gStep_put h2 h1] at hv'
   refine gStep_imp hv' fun S' hk hsl hbx=>?_
   unfold gStep
   rw [wi S' hsl,hw]
   simp only []
   unfold gCore
   rw [if_pos hs]
   have hd:=hr (fun u=>u=v) rfl
   have hd':detG P S' oi fun u=>u=v:=by
    rcases hmx with(hm | hm) | hm
    ·exact detG_frame (evi S' hsl) (hbx (.inl hm)) hd
    ·exact detG_frame (evi S' hsl) (hbx (.inr hm)) hd
    ·exact detG_memless hm (evi S' hsl) hd
   exact detG_mono' hd' fun u hu=>hu▸hk
  ·rename_i hw
   have hv':gStep P hc ops oj K (S.put oi.dst skipV):=h'
   rw [gStep_put h2 h1] at hv'
   refine gStep_imp hv' fun S' hk hsl _=>?_
   unfold gStep
   rw [wi S' hsl,hw]
   exact hk
  ·exact h'.elim
 ·
  have wj:∀ (S':St),(∀ i,oi.dst ≠ some i→S'.σ i=S.σ i)→wantA ops S'.σ oj=wantA ops S.σ oj:=fun S' hs=>wantA_of_looks (o':=oi) hs h1
  have evj:∀ (S':St),(∀ i,oi.dst ≠ some i→S'.σ i=S.σ i)→∀ x ∈ oj.op.operands.toList,ev S'.σ x=ev S.σ x:=fun S' hs=>ev_of_looks (o':=oi) hs h1
  have hg0:oj.guard=none:=by
   unfold total at ht
   simp only [Bool.and_eq_true,Option.isNone_iff_eq_none] at ht
   exact ht.1
  have hw:∀ S':St,wantA ops S'.σ oj=some true:=fun S'=>by unfold wantA;rw [hg0]
  obtain⟨x,hx,hg⟩:∃ x:Operand,x ∈ oj.op.operands.toList∧(∀ (S':St) (K':St→Prop),gStep P hc ops oj K' S'↔K' (S'.put oj.dst (ev S'.σ x))):=by
   obtain⟨e,op,ty,pos,af,gd⟩:=oj
   cases op <;> simp only [total,Bool.and_false] at ht <;> try (cases ht)
   case move x=>exact⟨x,by simp [Op.operands],fun S' K'=>by unfold gStep;rw [hw];simp only [];unfold gCore;rw [if_pos hsj];exact Iff.rfl⟩
   case assign x=>exact⟨x,by simp [Op.operands],fun S' K'=>by unfold gStep;rw [hw];simp only [];unfold gCore;rw [if_pos hsj];exact Iff.rfl⟩
  rw [hg S,gStep_put h2' h3]
  refine gStep_imp h fun S' hk hsl _=>?_
  rw [← evj S' hsl x hx]
  exact(hg S' K).1 hk
 ·
  have evj:∀ (S':St),(∀ i,oi.dst ≠ some i→S'.σ i=S.σ i)→∀ x ∈ oj.op.operands.toList,ev S'.σ x=ev S.σ x:=fun S' hs=>ev_of_looks (o':=oi) hs h1
  have hg0:oj.guard=none:=by
   unfold isRd at hsl
   simp only [Bool.and_eq_true,Option.isNone_iff_eq_none] at hsl
   exact hsl.1
  have hw:∀ S':St,wantA ops S'.σ oj=some true:=fun S'=>by unfold wantA;rw [hg0]
  have gj:∀ (S':St) (K':St→Prop),gStep P hc ops oj K' S'↔detG P S' oj fun v=>K' (S'.put oj.dst v):=fun S' K'=>by
   unfold gStep;rw [hw];simp only [];unfold gCore;rw [if_pos hsj]
  have frame:∀ (S':St) (k:V→Prop),(∀ i,oi.dst ≠ some i→S'.σ i=S.σ i)→S'.boxes=S.boxes→detG P S' oj k→detG P S oj k:=fun S' k hsl' hb hd =>
   detG_frame (fun x hx=>(evj S' hsl' x hx).symm) (fun b cs h=>by rw [hb] at h;exact h) hd
  rw [gj S]
  have h':(match wantA ops S.σ oi with | some true=>gCore P hc oi (gStep P hc ops oj K) S | some false=>gStep P hc ops oj K (S.put oi.dst skipV) | none=>False):=h
  have back:∀ v,gStep P hc ops oi (fun S'=>K (S'.put oj.dst v)) S→gStep P hc ops oi K (S.put oj.dst v):=fun v hv=>(gStep_put h2' h3).2 hv
  split at h'
  ·rename_i hwi
   have gi:∀ K':St→Prop,gStep P hc ops oi K' S↔gHard P hc S oi K':=fun K'=>by
    unfold gStep;rw [hwi];simp only [];unfold gCore;rw [if_neg (by rw [hs];decide)]
   have hh:gHard P hc S oi (gStep P hc ops oj K):=(gi _).1 (by unfold gStep;rw [hwi];exact h')
   obtain⟨F,f1,f2,f3⟩:=rowForm hbs hh
   have hd:=fun y=>frame _ _ (f1 y).2 (f1 y).1 ((gj _ _).1 (f2 y))
   obtain⟨v0,hv0⟩:=isRd_lin hsl _ (hd undef)
   exact(hv0 _).2 (back v0 ((gi _).2 (f3 _ fun y=>(hv0 _).1 (hd y))))
  ·rename_i hwi
   have hd:=frame _ _ (fun i hi=>put_slots S _ _ hi) rfl ((gj _ _).1 h')
   refine detG_mono' hd fun v hv=>back v ?_
   unfold gStep;rw [hwi];exact hv
  ·exact h'.elim
end Go.VL
