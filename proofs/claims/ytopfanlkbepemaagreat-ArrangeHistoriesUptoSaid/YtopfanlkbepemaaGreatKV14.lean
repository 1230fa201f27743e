/- Merged out of my text V14. -/
import Derived.Test.YtopfanlkbepemaaGreatKVU
import Derived.Scope
import Derived.RangeFuncLeaves
import Derived.RangeFuncRecord
namespace Go.VL
open Go.RowKit
def AWP (C:Ctx) (c:Code) (S:St) (Q:Exit→St→Prop):Prop :=
 ∀ a w I,Γ C S a w I→c.wpIn C.fe 0 C.P (fun e a' w'=>∃ S' I',Γ C S' a' w' I'∧Q e S') a w
def athen (K:St→Prop) (Q:Exit→St→Prop):Exit→St→Prop
 | .normal,S=>K S
 | .exit i,S=>Q (.exit i) S
 | .goto l,S=>Q (.goto l) S
 | .ret,S=>Q .ret S
 | .panic c,S=>Q (.panic c) S
 | .outgrown,S=>Q .outgrown S
def ablock (id:Nat) (Q:Exit→St→Prop):Exit→St→Prop
 | .normal,S=>Q .normal S
 | .exit i,S=>if i=id then Q .normal S else Q (.exit i) S
 | .goto l,S=>Q (.goto l) S
 | .ret,S=>Q .ret S
 | .panic c,S=>Q (.panic c) S
 | .outgrown,S=>Q .outgrown S
def anoGoto (Q:Exit→St→Prop):Exit→St→Prop
 | .goto _,_=>False
 | e,S=>Q e S
theorem AWP.mono {C c S} {Q Q':Exit→St→Prop} (h:AWP C c S Q) (hq:∀ e S,Q e S→Q' e S):AWP C c S Q' :=
 fun a w I hΓ=>wpIn_mono (h a w I hΓ) fun e _ _ ⟨S',I',h1,h2⟩=>⟨S',I',h1,hq e S' h2⟩
theorem AWP.seq {C x y S Q} (h:AWP C x S (athen (fun S'=>AWP C y S' Q) Q)):AWP C (.seq x y) S Q:=by
 intro a w I hΓ
 refine wpIn_seq (wpIn_mono (h a w I hΓ) fun e a' w' ⟨S',I',h1,h2⟩=>?_)
 cases e with
 | normal=>exact h2 a' w' I' h1
 | _=>exact⟨S',I',h1,h2⟩
theorem AWP.block {C id c S Q} (h:AWP C c S (ablock id Q)):AWP C (.block id c) S Q:=by
 intro a w I hΓ
 refine wpIn_block (wpIn_mono (h a w I hΓ) fun e a' w' ⟨S',I',h1,h2⟩=>?_)
 cases e with
 | exit i =>
  simp only [ablock] at h2
  simp only [Exit.inBlock]
  split
  ·rename_i hi;rw [if_pos hi] at h2;exact⟨S',I',h1,h2⟩
  ·rename_i hi;rw [if_neg hi] at h2;exact⟨S',I',h1,h2⟩
 | _=>exact⟨S',I',h1,h2⟩
theorem stepR_scope {P:Program} {b:Frame} {a:Act} {k:List Item} {cs:List Frame} {w:World} {c:Code}:step P (lone (b.atR a (.code (.scope c)::k)) cs w)=.next (lone (b.atR a (.code c::.inScope c::k)) cs w) :=
 step_lone_go (by simp [stepG,stepG.exec,Frame.atR])
theorem stepR_inScope {P:Program} {b:Frame} {a:Act} {k:List Item} {cs:List Frame} {w:World} {c:Code}:step P (lone (b.atR a (.inScope c::k)) cs w)=.next (lone (b.atR a k) cs w) :=
 step_lone_go (by simp [stepG,stepG.exec,Frame.atR])
theorem wpIn_scope_straight {F:Fence} {n:Nat} {P:Program} {Q:Exit→Act→World→Prop} {a:Act} {w:World} {c:Code} (h:c.wpIn F n P (Exit.noGoto Q) a w):(Code.scope c).wpIn F n P Q a w:=by
 intro b k cs hro hb hr
 obtain⟨e,a₁,w₁,hq,harr⟩:=h b (.inScope c::k) cs hro hb hr
 have s0:StepsIn (Machine.fenced P F) P (lone (b.atR a (.code (.scope c)::k)) cs w) (lone (b.atR a (.code c::.inScope c::k)) cs w):=.one (fenced_calm hb hr rfl) stepR_scope
 cases e with
 | normal=>exact⟨.normal,a₁,w₁,hq,.of_steps s0 (.of_steps (e:=.normal) harr (.one (fenced_calm hb hr rfl) stepR_inScope))⟩
 | exit id=>exact⟨.exit id,a₁,w₁,hq,.of_steps s0 ⟨fun k' hk=>harr.1 k' (by simp [exitTo,hk]),fun hr' hk=>harr.2 hr' (by simp [exitTo,hk])⟩⟩
 | goto l=>exact hq.elim
 | ret=>exact⟨_,a₁,w₁,hq,.of_steps s0 harr⟩
 | panic ch=>exact⟨_,a₁,w₁,hq,.of_steps s0 harr⟩
 | outgrown=>exact⟨_,a₁,w₁,hq,.of_steps s0 harr⟩
theorem AWP.scope {C c S Q} (h:AWP C c S (anoGoto Q)):AWP C (.scope c) S Q:=by
 intro a w I hΓ
 refine wpIn_scope_straight (wpIn_mono (h a w I hΓ) fun e a' w' ⟨S',I',h1,h2⟩=>?_)
 cases e with
 | goto l=>exact h2.elim
 | _=>exact⟨S',I',h1,h2⟩
theorem AWP.cond {C c x y S Q} {b:Bool} (hc:ev S.σ c=.lit (.bool b)) (h:if b=true then AWP C x S Q else AWP C y S Q):AWP C (.cond c x y) S Q:=by
 intro a w I hΓ
 have r:=hΓ.ev c
 rw [hc] at r
 simp only [V.rep] at r
 cases b
 ·exact wpIn_cond_false r (h a w I hΓ)
 ·exact wpIn_cond_true r (h a w I hΓ)
theorem AWP.loop {C c S Q} (J:Nat→St→Prop) (n:Nat) (h0:J n S) (round:∀ n S,J n S→AWP C c S (athen (fun S'=>∃ m,m < n∧J m S') Q)):AWP C (.loop c) S Q:=by
 intro a w I hΓ b k cs hro hb hr
 have key:∀ n S a w I,Γ C S a w I→J n S →
   ∃ e a' w',(∃ S' I',Γ C S' a' w' I'∧Q e S')∧ArrivesIn (Machine.fenced C.P C.fe) C.P (lone (b.atR a (.code c::.inLoop c::k)) cs w) b k cs e a' w':=by
  intro n
  induction n using Nat.strongRecOn with
  | _ n ih =>
   intro S a w I hΓ hJ
   obtain⟨e,a₁,w₁,⟨S',I',hΓ',hq⟩,harr⟩:=round n S hJ a w I hΓ b (.inLoop c::k) cs hro hb hr
   cases e with
   | normal =>
    obtain⟨m,hm,hJ'⟩:=hq
    obtain⟨e₂,a₂,w₂,hq₂,harr₂⟩:=ih m hm S' a₁ w₁ I' hΓ' hJ'
    exact⟨e₂,a₂,w₂,hq₂,.of_steps (StepsIn.trans harr (.one (fenced_calm hb hr rfl) stepR_inLoop)) harr₂⟩
   | exit id=>exact⟨_,a₁,w₁,⟨S',I',hΓ',hq⟩,.pass (x:=.inLoop c) rfl (fun _ _=>.inl (by simp)) harr⟩
   | goto l=>exact⟨_,a₁,w₁,⟨S',I',hΓ',hq⟩,.pass (x:=.inLoop c) rfl (fun _ _=>.inl (by simp)) harr⟩
   | ret=>exact⟨_,a₁,w₁,⟨S',I',hΓ',hq⟩,.pass (x:=.inLoop c) rfl (fun _ _=>.inl (by simp)) harr⟩
   | panic ch=>exact⟨_,a₁,w₁,⟨S',I',hΓ',hq⟩,.pass (x:=.inLoop c) rfl (fun _ _=>.inl (by simp)) harr⟩
   | outgrown=>exact⟨_,a₁,w₁,⟨S',I',hΓ',hq⟩,.pass (x:=.inLoop c) rfl (fun _ _=>.inl (by simp)) harr⟩
 obtain⟨e,a',w',hq,harr⟩:=key n S a w I hΓ h0
 exact⟨e,a',w',hq,.of_steps (.one (fenced_calm hb hr rfl) stepR_loop) harr⟩
theorem AWP.region {C id S Q} {ops:Array Oper} (hd:∀ o ∈ ops.toList,dstOk C.N o=true) (h:aOps C.P ops (Q .normal) ops.toList S):AWP C (.region id ops false) S Q:=by
 intro a w I hΓ
 exact wpIn_region_list (aOps_spec (fun S' a' w' I' hΓ' hk=>⟨S',I',hΓ',hk⟩) ops.toList S a w I hd hΓ h)
theorem AWP.draw {C id S Q} {ops:Array Oper} (n:Nat) (hm:C.P.follows .mixedOrders=true) (hB:drawB ops n=true) (hd:∀ o ∈ ops.toList,dstOk C.N o=true)
  (h:dOps C.P ops (fun S'=>aOps C.P ops (Q .normal) (ops.toList.drop n) S') (ops.toList.take n) S):AWP C (.region id ops true) S Q:=by
 intro a w I hΓ
 have:=wp_region_draw (l:=ops.toList) (id:=id) (Q:=fun e a' w'=>∃ S' I',Γ C S' a' w' I'∧Q e S') n hm (by simpa using hB) hd hΓ (fun S'=>aOps C.P ops (Q .normal) (ops.toList.drop n) S')
  (fun S' a' w' I' hΓ' hT=>by
   have:=aOps_spec (C:=C) (ops:=ops) (Q:=fun e a' w'=>∃ S' I',Γ C S' a' w' I'∧Q e S') (fun S' a' w' I' hΓ' hk=>⟨S',I',hΓ',hk⟩) (ops.toList.drop n) S' a' w' I' (fun o ho=>hd o (List.mem_of_mem_drop ho)) hΓ' hT
   simpa using this) (by simpa using h)
 simpa using this
theorem AWP.mixed {C:Ctx} {ops:Array Oper} {id:Nat} {S:St} {Q:Exit→St→Prop} (hc:Option Bool) (hm:C.P.follows .mixedOrders=true) (hB:mixedB hc ops=true) (hd:∀ o ∈ ops.toList,dstOk C.N o=true)
  (h:gSeq C.P hc ops (Q .normal) ops.toList S):AWP C (.region id ops true) S Q:=by
 intro a w I hΓ
 simp only [mixedB,Bool.and_eq_true] at hB
 refine wpIn_region_any hm ?_
 have hrep:∀ i,(Array.replicate ops.size false).getD i false=false:=fun i=>by
  by_cases h:i < ops.size <;> simp [Array.getD,h]
 have hleft:leftOf ops (Array.replicate ops.size false)=List.range ops.size:=by
  unfold leftOf
  refine List.filter_eq_self.2 fun i hi=>?_
  have:=List.mem_range.1 hi
  simp [Array.getD,this]
 have h0:=gSeqI_of (P:=C.P) (hc:=hc) (ops:=ops) (K:=Q .normal) (l:=ops.toList) (pre:=[]) (S:=S) (by simp) h
 have e0:(List.range ops.toList.length).map (([]:List Oper).length+·)=List.range ops.size:=by simp
 rw [e0] at h0
 exact wpAny_of_mixed (C:=C) (hc:=hc) (K:=Q .normal) (Q:=fun e a' w'=>∃ S' I',Γ C S' a' w' I'∧Q e S') hB.1 hB.2
  (fun i o ho=>hd o (by obtain⟨hi,e⟩:=Array.getElem?_eq_some_iff.1 ho;rw [← e];simp)) (fun S a w I hΓ hk=>⟨S,I,hΓ,hk⟩) ops.size _ S a _ I (by simp)
  (fun i hi=>by rw [hrep] at hi;cases hi) (by rw [hleft];simp) ⟨hΓ.1.mono (Keeps.drew (fun _=>True) w I).stays,hΓ.2.quiet (fun _=>True) (fun _ _=>trivial) (Keeps.drew _ w I) hΓ.2.heap.inn⟩ (by rw [hleft];exact h0)
def softB (o:Oper):Bool :=
 match o.op with
 | .alloc _ | .box _ _ | .store _ _ _ | .makeSlice _ _ _ | .makeMap _ _ | .lookup _ _ _ _ | .mapUpdate _ _ _ _ | .mapEntry _ _ _ | .entryStore _ _ _ _ | .range _ _ | .next _ _ | .entry _=>false
 | .call c=>match c.callee with
  | .builtin .append | .builtin .copy=>false
  | _=>true
 | _=>true
def preN (ops:List Oper):Nat:=(ops.takeWhile softB).length
def modeOf:List (Nat × Nat)→Nat→Nat
 | [],_=>0
 | (i,m)::r,j=>if i=j then m else modeOf r j
def okCode (N:Nat) (M:List (Nat × Nat)):Code→Bool
 | .seq x y=>okCode N M x && okCode N M y
 | .cond _ x y=>okCode N M x && okCode N M y
 | .block _ c | .scope c=>okCode N M c
 | .region id ops d=>ops.toList.all (dstOk N) && (!d || match modeOf M id with
  | 0=>drawB ops (preN ops.toList)
  | 1=>mixedB none ops
  | 2=>mixedB (some false) ops
  | 4=>mixedB (some true) ops
  | _=>true)
 | _=>true
def cwp (C:Ctx):Code→St→(Exit→St→Prop)→Prop
 | .skip,S,Q=>Q .normal S
 | .label _,S,Q=>Q .normal S
 | .exit i,S,Q=>Q (.exit i) S
 | .ret,S,Q=>Q .ret S
 | .seq x y,S,Q=>cwp C x S (athen (fun S'=>cwp C y S' Q) Q)
 | .cond c x y,S,Q=>match ev S.σ c with
  | .lit (.bool b)=>if b=true then cwp C x S Q else cwp C y S Q
  | _=>False
 | .block id c,S,Q=>cwp C c S (ablock id Q)
 | .scope c,S,Q=>cwp C c S (anoGoto Q)
 | .region _ ops false,S,Q=>aOps C.P ops (Q .normal) ops.toList S
 | .region id ops true,S,Q=>match modeOf C.M id with
  | 0=>dOps C.P ops (fun S'=>aOps C.P ops (Q .normal) (ops.toList.drop (preN ops.toList)) S') (ops.toList.take (preN ops.toList)) S
  | 1=>gSeq C.P none ops (Q .normal) ops.toList S
  | 2=>gSeq C.P (some false) ops (Q .normal) ops.toList S
  | 4=>gSeq C.P (some true) ops (Q .normal) ops.toList S
  | _=>AWP C (.region id ops true) S Q
 | c,S,Q=>AWP C c S Q
theorem cwp_spec {C:Ctx} (hm:C.P.follows .mixedOrders=true):∀ (c:Code) (S:St) (Q:Exit→St→Prop),okCode C.N C.M c=true→cwp C c S Q→AWP C c S Q:=by
 intro c
 induction c with
 | skip=>exact fun S Q _ h a w I hΓ=>wpIn_skip ⟨S,I,hΓ,h⟩
 | label l=>exact fun S Q _ h a w I hΓ=>wpIn_label ⟨S,I,hΓ,h⟩
 | exit i=>exact fun S Q _ h a w I hΓ=>wpIn_exit ⟨S,I,hΓ,h⟩
 | ret=>exact fun S Q _ h a w I hΓ=>wpIn_ret ⟨S,I,hΓ,h⟩
 | seq x y ihx ihy =>
  intro S Q hk h
  simp only [cwp] at h
  simp only [okCode,Bool.and_eq_true] at hk
  refine AWP.seq ((ihx S _ hk.1 h).mono fun e S' h'=>?_)
  cases e with
  | normal=>exact ihy S' Q hk.2 h'
  | _=>exact h'
 | cond c x y ihx ihy =>
  intro S Q hk h
  simp only [cwp] at h
  simp only [okCode,Bool.and_eq_true] at hk
  split at h
  ·rename_i b hb
   refine AWP.cond hb ?_
   cases b
   ·exact ihy S Q hk.2 h
   ·exact ihx S Q hk.1 h
  ·exact h.elim
 | block id c ih=>intro S Q hk h;simp only [cwp] at h;simp only [okCode] at hk;exact AWP.block (ih S _ hk h)
 | region id ops draw =>
  intro S Q hk h
  simp only [okCode,Bool.and_eq_true,List.all_eq_true] at hk
  cases draw
  ·simp only [cwp] at h;exact AWP.region hk.1 h
  ·simp only [cwp] at h
   have hk2:=hk.2
   simp only [Bool.not_true,Bool.false_or] at hk2
   split at h <;> rename_i hmo <;> simp only [hmo] at hk2
   ·exact AWP.draw _ hm hk2 hk.1 h
   ·exact AWP.mixed none hm hk2 hk.1 h
   ·exact AWP.mixed (some false) hm hk2 hk.1 h
   ·exact AWP.mixed (some true) hm hk2 hk.1 h
   ·exact h
 | loop c _=>intro S Q _ h;simpa only [cwp] using h
 | rangeFunc f ps a b _ _=>intro S Q _ h;simpa only [cwp] using h
 | scope c ih=>intro S Q hk h;simp only [cwp] at h;simp only [okCode] at hk;exact AWP.scope (ih S _ hk h)
 | goto l=>intro S Q _ h;simpa only [cwp] using h
 | refuse why=>intro S Q _ h;simpa only [cwp] using h
def resV (P:Program) (S:St):List ResultVar→(List V→Prop)→Prop
 | [],k=>k []
 | .tmp t::r,k=>resV P S r fun l=>k (S.σ t::l)
 | .cell t T::r,k=>atP S (S.σ t) fun cs=>loadK P T cs fun v=>resV P S r fun l=>k (v::l)
theorem resV_spec {C:Ctx} {S:St}:∀ {rs:List ResultVar} {k:List V→Prop},resV C.P S rs k→∃ l,k l∧∀ a w I,Γ C S a w I →
  ∃ xs,(rs.mapM fun | .tmp t=>pure (a.tmps.getD t undef) | .cell t T=>do loadVar T (← asAddr (a.tmps.getD t undef)):Sem (List Value)).run C.P w=.ok xs w∧V.reps w I l xs
 | [],k,h=>⟨[],h,fun a w I _=>⟨[],by simp,by simp [V.reps]⟩⟩
 | .tmp t::r,k,h=>by
  obtain⟨l,hk,hl⟩:=resV_spec (C:=C) (rs:=r) (k:=fun l=>k (S.σ t::l)) h
  refine⟨_,hk,fun a w I hΓ=>?_⟩
  obtain⟨xs,h1,h2⟩:=hl a w I hΓ
  refine⟨a.tmps.getD t undef::xs,?_,by simp only [V.reps];exact⟨hΓ.1.tmps t,h2⟩⟩
  simp only [List.mapM_cons,Sem.run_bind,Sem.run_pure,Result.andThen_ok,h1]
 | .cell t T::r,k,h=>by
  simp only [resV] at h
  obtain⟨cs,h,hcs⟩:=atP_spec (C:=C) h
  obtain⟨v,h,hv⟩:=loadK_spec h
  obtain⟨l,hk,hl⟩:=resV_spec (C:=C) (rs:=r) (k:=fun l=>k (v::l)) h
  refine⟨_,hk,fun a w I hΓ=>?_⟩
  obtain⟨b,o,e,hh⟩:=hcs w I _ hΓ.2 (hΓ.1.tmps t)
  obtain⟨x,hx,hr⟩:=hv w I b o hh
  obtain⟨xs,h1,h2⟩:=hl a w I hΓ
  refine⟨x::xs,?_,by simp only [V.reps];exact⟨hr,h2⟩⟩
  have ea:(asAddr (a.tmps.getD t undef)).run C.P w=.ok ⟨b,o,none⟩ w:=by rw [e];rfl
  simp only [List.mapM_cons,Sem.run_bind,Sem.run_pure,Result.andThen_ok,ea,hx,h1]
def packV:List V→V
 | [v]=>v
 | l=>.tup l
def retK (P:Program) (rs:List ResultVar) (Q:V→List (Nat × B)→List Row→Prop) (S:St):Prop :=
 resV P S rs fun l=>∃ v bs' rs',Le (packV l) v∧bs'.Sublist S.boxes∧rs'.Sublist S.rows∧Q v bs' rs'
def retQ (P:Program) (rs:List ResultVar) (Q:V→List (Nat × B)→List Row→Prop):Exit→St→Prop
 | .normal,S=>retK P rs Q S
 | .ret,S=>retK P rs Q S
 | _,_=>False
def S0 (args:List V) (bs:List (Nat × B)):St:=⟨fun i=>args.getD i .any,bs,[]⟩
theorem retK_spec {C:Ctx} {S:St} {fn:Func} {Q:V→List (Nat × B)→List Row→Prop} {a:Act} {w:World} {I:Cells} (hΓ:Γ C S a w I) (h:retK C.P fn.results.toList Q S) :
  ∃ x v bs' rs',(results fn a.tmps).run C.P w=.ok x w∧V.rep w I v x∧bs'.Sublist S.boxes∧rs'.Sublist S.rows∧Q v bs' rs':=by
 obtain⟨l,⟨v,bs',rs',h1,h2,h3,h4⟩,hl⟩:=resV_spec (C:=C) h
 obtain⟨xs,g1,g2⟩:=hl a w I hΓ
 refine⟨if h:xs.toArray.size=1 then xs.toArray[0] else .tuple xs.toArray,v,bs',rs',?_,?_,h2,h3,h4⟩
 ·have key:results fn a.tmps=(do
    let vs ← (Functor.map List.toArray (fn.results.toList.mapM fun | .tmp t=>pure (a.tmps.getD t undef) | .cell t T=>do loadVar T (← asAddr (a.tmps.getD t undef))):Sem (Array Value))
    pure (if h:vs.size=1 then vs[0] else .tuple vs)):=by
   unfold results
   rw [Array.mapM_eq_mapM_toList]
   rfl
  rw [key]
  simp only [Sem.run_bind,Sem.run_map,g1,Result.andThen_ok,Sem.run_pure]
 ·refine h1 w I _ ?_
  match l,xs,g2 with
  | [],[],_=>simp [packV,V.rep,V.reps]
  | [v1],[x1],g2=>simpa [packV,V.reps] using g2
  | v1::v2::l,x1::x2::xs,g2=>simpa [packV,V.rep] using g2
  | [],_::_,g2=>simp [V.reps] at g2
  | _::_,[],g2=>simp [V.reps] at g2
  | [v1],x1::x2::xs,g2=>simp [V.reps] at g2
  | v1::v2::l,[x1],g2=>simp [V.reps] at g2
theorem Heap.sub {w I bs rows bs' rows'} (h:Heap w I bs rows) (h1:bs'.Sublist bs) (h2:rows'.Sublist rows):Heap w I bs' rows' :=
 ⟨fun p hp=>h.bx p (h1.subset hp),fun r hr=>h.rw r (h2.subset hr),(List.Sublist.append (h1.map _) (h2.filterMap _)).nodup h.nodup,h.inn,h.glob⟩
theorem cell_shut {w:World} {D:Nat} {x y:Option (List Deferred)} (h:w.heap[D]? = some (.deferred x)) (b o:Nat):(w.putObj D (.deferred y)).cell? ⟨b,o,none⟩=w.cell? ⟨b,o,none⟩:=by
 unfold World.cell?
 by_cases e:b=D
 ·subst e
  have h':(w.putObj b (.deferred y)).heap[b]? = some (.deferred y):=World.putObj_heap_same (Array.getElem?_eq_some_iff.1 h).1
  simp only [h,h']
 ·have h':(w.putObj D (.deferred y)).heap[b]? = w.heap[b]? := World.putObj_heap_other e
  simp only [h']
theorem BoxAt.shut {w I b z} {D:Nat} {x:Option (List Deferred)} (h:BoxAt w I b z) (hD:w.heap[D]? = some (.deferred x)):BoxAt (w.putObj D (.deferred none)) I b z:=by
 have hne:b ≠ D:=fun e=>by
  subst e
  exact h.notD hD x rfl
 have hb:(w.putObj D (.deferred none)).heap[b]? = w.heap[b]? := World.putObj_heap_other hne
 have hs:StaysC w I (w.putObj D (.deferred none)) I:=fun b o hi=>⟨hi,cell_shut hD b o⟩
 cases z with
 | c cs =>
  obtain⟨arr,e,h1,h2,h3,h4⟩:=h
  exact⟨arr,e,by rw [hb];exact h1,h2,V.reps_monoC hs _ _ h3,h4⟩
 | m ks es clock =>
  obtain⟨arr,h1,h2,h4,h5⟩:=h
  exact⟨arr,by rw [hb];exact h1,h2,V.reps_monoC hs _ _ h4,h5⟩
 | it mb since seen last=>exact⟨by rw [hb];exact h.1,h.2⟩
 | obj x=>exact⟨by rw [hb];exact h.1,h.2⟩
theorem Γ.shut {C:Ctx} {S:St} {a:Act} {w:World} {I:Cells} {D:Nat} {ds:List Deferred} (h:Γ C S { a with defers:={ target:=.collected D,args:=#[] }::ds } w I) (hD:w.heap[D]? = some (.deferred (some []))) (hm:C.w0.heap.size≤D) :
  Γ C S { a with defers:=ds } (w.putObj D (.deferred none)) I:=by
 have hs:StaysC w I (w.putObj D (.deferred none)) I:=fun b o hi=>⟨hi,cell_shut hD b o⟩
 have hrow:∀ r ∈ S.rows,∀ g,r.x.ownBlock=some g→g ≠ D:=fun r hr g hg e=>by
  subst e
  obtain⟨_,⟨te,xs,h1,h2⟩,h3⟩:=h.2.heap.rw r hr
  rcases h2 with h2 | ⟨g',cap,cur,e1,e2,e3,e4⟩
  ·rw [h2.1] at hg;cases hg
  ·rw [e1] at hg
   obtain rfl:=Option.some.inj hg
   rw [e3] at hD;cases hD
 refine⟨⟨h.1.size,⟨(List.nodup_cons.1 h.1.defers.1).2,fun d hd=>?_⟩,fun i=>V.rep_monoC hs _ _ (h.1.tmps i)⟩,⟨fun p hp=>(h.2.heap.bx p hp).shut hD,fun r hr=>(h.2.heap.rw r hr).mono (fun g hg=>World.putObj_heap_other (hrow r hr g hg)) (fun _ _ _ hi=>hi),h.2.heap.nodup,fun b o hi=>by simpa using h.2.heap.inn b o hi,h.2.heap.glob.monoC hs⟩,h.2.mine,
  ⟨h.2.keeps.os,h.2.keeps.tape,h.2.keeps.output,by simpa using h.2.keeps.size,fun b hb=>?_,⟨fun b o hi=>⟨(h.2.keeps.stays.1 b o hi).1,(cell_shut hD b o).trans (h.2.keeps.stays.1 b o hi).2⟩,fun b x hx=>?_⟩,h.2.keeps.old,h.2.keeps.drawn⟩,h.2.lo⟩
 ·obtain⟨D',h1,h2,h3⟩:=h.1.defers.2 d (List.mem_cons_of_mem _ hd)
  have hne:D' ≠ D:=fun e=>by
   subst e
   rw [h1] at hd
   exact(List.nodup_cons.1 h.1.defers.1).1 hd
  exact⟨D',h1,h2,(World.putObj_heap_other hne).trans h3⟩
 ·rw [World.putObj_heap_other (by have:=h.2.lo b hb;omega)]
  exact h.2.keeps.block b hb
 ·have hlt:=(Array.getElem?_eq_some_iff.1 hx).1
  rw [World.putObj_heap_other (by omega)]
  exact h.2.keeps.stays.2 b x hx
theorem Ok.of_body (M:List (Nat × Nat)) {P:Program} {f:FuncId} {fn:Func} {c:Code} {args:List V} {bs:List (Nat × B)} {Q:V→List (Nat × B)→List Row→Prop} (hm:P.follows .mixedOrders=true) (hf:P.funcs[f]? = some fn) (hb:fn.body=some c) (hn:args.length≤fn.ntmps) (hk:okCode fn.ntmps M c=true)
  (h:∀ F w0 I0,cwp { P:=P,N:=fn.ntmps,F:=F,w0:=w0,I0:=I0,M:=M } c (S0 args bs) (retQ P fn.results.toList Q)):Ok P f args bs Q:=by
 intro w I xs hr hH
 have hl:=reps_length hr
 refine(callsIn_wide (n:=0)).1 (callsIn_of_wp_marks hf hb trivial ?_)
 let C:Ctx:={ P:=P,N:=fn.ntmps,F:=fun b=>b < w.heap.size∧b ∉ bs.map (·.1),w0:=w,I0:=I,M:=M }
 have hΓ:Γ C (S0 args bs) { tmps:=xs.toArray++Array.replicate (fn.ntmps - xs.toArray.size) undef,defers:=[] } w I:=by
  refine⟨⟨by simp [C,hl];omega,⟨List.nodup_nil,fun d hd=>by cases hd⟩,fun i=>?_⟩,⟨hH,fun b hb=>?_,Keeps.refl _ _ _,fun b hb=>hb.1⟩⟩
  ·by_cases hi:i < args.length
   ·have hix:i < xs.length:=by omega
    obtain⟨v,e1,e2⟩:=reps_get hr i _ (List.getElem?_eq_getElem hix)
    have:(xs.toArray++Array.replicate (fn.ntmps - xs.toArray.size) undef).getD i undef=xs[i]:=by
     simp [Array.getElem?_append,hix]
    simp only [S0,List.getD,e1,Option.getD_some,this]
    exact e2
   ·simp only [S0,List.getD,List.getElem?_eq_none (Nat.le_of_not_lt hi),Option.getD_none,V.rep]
  ·simp only [blks,S0,List.filterMap_nil,List.append_nil] at hb
   exact fun hF=>hF.2 hb
 refine wpIn_mono (cwp_spec (C:=C) hm c _ _ hk (h _ _ _) _ w I hΓ) fun e a' w' ⟨S',I',hΓ',hq⟩=>?_
 have fin:∀ (ds:List Deferred) (w':World),Γ C S' { a' with defers:=ds } w' I'→retK P fn.results.toList Q S'→LeavesInM Fence.wide 0 P fn a'.tmps (fun e w'=>∃ x v bs' rs' I',e=.returned x∧V.rep w' I' v x∧Keeps (fun b=>b < w.heap.size∧b ∉ bs.map (·.1)) w I w' I'∧Heap w' I' bs' rs'∧(∀ b ∈ blks bs' rs',¬ (b < w.heap.size∧b ∉ bs.map (·.1)))∧Q v bs' rs') ds .returning w':=by
  intro ds
  induction ds with
  | nil =>
   intro w' hΓ' hq
   obtain⟨x,v,bs',rs',h1,h2,h3,h4,h5⟩:=retK_spec (C:=C) hΓ' hq
   exact⟨x,h1,x,v,bs',rs',I',rfl,h2,hΓ'.2.keeps,hΓ'.2.heap.sub h3 h4,fun b hb=>hΓ'.2.mine b ((List.Sublist.append (h3.map _) (h4.filterMap _)).subset hb),h5⟩
  | cons d ds ih =>
   intro w' hΓ' hq
   obtain⟨D,rfl,h2,h3⟩:=hΓ'.1.defers.2 d List.mem_cons_self
   exact⟨fun e=>(by cases e),.inl ⟨D,_,rfl,run_takeDeferred h3,ih _ (hΓ'.shut h3 h2) hq⟩⟩
 cases e with
 | normal=>exact fin a'.defers w' hΓ' hq
 | ret=>exact fin a'.defers w' hΓ' hq
 | exit i=>exact hq.elim
 | goto l=>exact hq.elim
 | panic c=>exact hq.elim
 | outgrown=>exact hq.elim
def OkP (P:Program) (f:FuncId) (args:List V) (v:V):Prop:=Ok P f args [] fun r bs rs=>r=v∧bs=[]∧rs=[]
theorem OkP.v {P f args v} (h:OkP P f args v):OkV P f args v:=h.mono fun _ _ _ ⟨e,_,_⟩=>e▸Le.refl _
end Go.VL
