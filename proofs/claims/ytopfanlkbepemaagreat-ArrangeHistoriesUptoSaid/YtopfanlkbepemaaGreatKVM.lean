/- Merged out of my text VM. -/
import Derived.Test.YtopfanlkbepemaaGreatKVI
import Derived.Laws.IdiomRangeMap
namespace Go.VL
open Go.RowKit
section
variable {P:Program}
theorem ba_beq (a b:ByteArray):(a == b)=decide (a=b):=by
 rw [Bool.eq_iff_iff,decide_eq_true_eq]
 cases a;cases b
 rename_i a b
 show (a == b)=true↔_
 rw [beq_iff_eq,ByteArray.mk.injEq]
theorem check_items {d:Nat} {em:Bool} {D:Nat} {e:TypeId} {l:List Sh} {c:Nat} (hl:eqSh P d e=some l) (hc:tsz P e=some c) (hlc:l.length=c) (ih:∀ xs w,fitL l xs=true→(Instr.checkKey em D e (mkV P e xs)).run P w=.ok () w)
  (X:Array Value) (w:World):∀ (m j:Nat),fitL ((List.replicate m l).flatten) (X.toList.drop (j * c))=true →
  (forIn (List.range' j m) PUnit.unit fun i _=>(do Instr.checkKey em D e (← part e X (i * (← sizeOf e)));pure (ForInStep.yield PUnit.unit):Sem (ForInStep PUnit))).run P w=.ok PUnit.unit w
 | 0,j,_=>by simp
 | m+1,j,hx=>by
  simp only [List.replicate_succ,List.flatten_cons] at hx
  have ax:=fitL_append hx
  rw [hlc] at ax
  simp only [List.drop_drop] at ax
  rw [show j * c+c=(j+1) * c by rw [Nat.add_mul];omega] at ax
  have r:=check_items hl hc hlc ih X w m (j+1) ax.2
  simp only [List.range'_succ,List.forIn_cons,Sem.run_bind,run_tsz hc,run_part_mk hl hc hlc ax.1,ih _ w ax.1,Result.andThen_ok,Sem.run_pure]
  exact r
theorem check_fields {d:Nat} {em:Bool} {D:Nat} (ih:∀ t l,eqSh P d t=some l→∀ xs w,fitL l xs=true→(Instr.checkKey em D t (mkV P t xs)).run P w=.ok () w) (X:Array Value) (w:World):∀ (fs:List Field) (o:Nat) (l:List Sh),eqShF P (eqSh P d) o fs=some l →
  fitL l (X.toList.drop o) = true → (forIn fs PUnit.unit fun f _ => if f.name ≠ "_" then (do let x ← part f.type X f.offset; Instr.checkKey em D f.type x; pure (ForInStep.yield PUnit.unit) : Sem (ForInStep PUnit)) else pure (ForInStep.yield PUnit.unit)).run P w = .ok PUnit.unit w
 | [],o,l,_,_=>by simp
 | f::fs,o,l,h,hx=>by
  simp only [eqShF] at h
  split at h
  ·cases h
  ·rename_i hno
   have hn : f.name ≠ "_" := fun e => hno (.inl e)
   have ho:f.offset=o:=Decidable.byContradiction fun e=>hno (.inr e)
   split at h
   ·rename_i l1 c h1 hc
    split at h
    ·rename_i hlc
     simp only [Option.map_eq_some_iff] at h
     obtain⟨l2,h2,rfl⟩:=h
     have ax:=fitL_append hx
     rw [hlc] at ax
     simp only [List.drop_drop] at ax
     have r:=check_fields ih X w fs (o+c) l2 h2 ax.2
     simp only [List.forIn_cons,Sem.run_bind,hn,ne_eq,not_false_eq_true,if_true,ho,run_part_mk h1 hc hlc ax.1,ih _ _ h1 _ w ax.1,Result.andThen_ok,Sem.run_pure]
     exact r
    ·cases h
   ·cases h
theorem check_law {em:Bool}:∀ d t l,eqSh P d t=some l→∀ D,d≤D→∀ xs w,fitL l xs=true→(Instr.checkKey em D t (mkV P t xs)).run P w=.ok () w
 | 0,t,l,h,_,_,_,_,_=>by simp [eqSh] at h
 | d+1,t,l,h,D,hD,xs,w,hx=>by
  obtain⟨D,rfl⟩:∃ D',D=D'+1:=⟨D - 1,by omega⟩
  have hD':d≤D:=by omega
  have IH:=fun t l h xs w hx=>check_law (em:=em) d t l h D hD' xs w hx
  unfold eqSh at h
  split at h
  ·rename_i hu
   cases h
   obtain⟨a,rfl⟩:=fit_b hx
   have ht:tag P t=some false:=by simp [tag,hu]
   simp [mkV,ht,Instr.checkKey,run_underlying hu]
  ·rename_i k hu
   cases h
   obtain⟨a,rfl⟩:=fit_i hx
   have ht:tag P t=some false:=by simp [tag,hu]
   simp [mkV,ht,Instr.checkKey,run_underlying hu]
  ·rename_i hu
   cases h
   obtain⟨a,rfl⟩:=fit_s hx
   have ht:tag P t=some false:=by simp [tag,hu]
   simp [mkV,ht,Instr.checkKey,run_underlying hu]
  ·rename_i n e hu
   split at h
   ·rename_i l1 c h1 hc
    split at h
    ·rename_i hlc
     cases h
     have ht:tag P t=some true:=by simp [tag,hu]
     simp only [mkV,ht,if_true,Instr.checkKey,Sem.run_bind,run_underlying hu,Result.andThen_ok]
     simp only [Std.Legacy.Range.forIn_eq_forIn_range',Std.Legacy.Range.size,Nat.sub_zero,Nat.add_one_sub_one,Nat.div_one]
     have:=check_items h1 hc hlc (fun xs w hx=>IH e l1 h1 xs w hx) xs.toArray w n 0 (by simpa using hx)
     first | exact this | (rw [this];rfl)
    ·cases h
   ·cases h
  ·rename_i fs hu
   split at h
   ·cases h
   ·have ht:tag P t=some true:=by simp [tag,hu]
    simp only [mkV,ht,if_true,Instr.checkKey,Sem.run_bind,run_underlying hu,Result.andThen_ok]
    rw [← Array.forIn_toList]
    have:=check_fields IH xs.toArray w fs.toList 0 l h (by simpa using hx)
    first | exact this | (rw [this];rfl)
  ·cases h
theorem veqL_eq:∀ {sh:List Sh} {xs ys:List Value},fitL sh xs=true→fitL sh ys=true→(veqL xs ys=true↔xs=ys)
 | [],[],[],_,_=>by simp [veqL]
 | a::sh,x::xs,y::ys,hx,hy=>by
  simp only [fitL,Bool.and_eq_true] at hx hy
  have h1:=veqL_eq hx.2 hy.2
  simp only [veqL,Bool.and_eq_true,h1,List.cons.injEq,and_congr_left_iff]
  intro _
  have hx1:=hx.1;have hy1:=hy.1
  cases a <;> cases x <;> simp only [fit,Bool.false_eq_true] at hx1 <;> cases y <;> simp only [fit,Bool.false_eq_true] at hy1 <;> simp_all [veq]
 | [],_::_,_,hx,_=>by simp [fitL] at hx
 | [],[],_::_,_,hy=>by simp [fitL] at hy
 | _::_,[],_,hx,_=>by simp [fitL] at hx
 | _::_,_::_,[],_,hy=>by simp [fitL] at hy
def keyT (P:Program) (t:TypeId):Option (List Sh × Bool):=match eqSh P 12 t,tag P t with | some l,some b=>some (l,b) | _,_=>none
theorem keyS_mk {t:TypeId} {ks:List Sh × Bool} {v:Value} (ht:keyT P t=some ks) (h:keyS ks v=true):v=mkV P t v.cells.toList∧eqSh P 12 t=some ks.1∧fitL ks.1 v.cells.toList=true:=by
 unfold keyT at ht
 split at ht
 ·rename_i l b h1 h2
  cases ht
  simp only [keyS,Bool.and_eq_true] at h
  refine⟨?_,h1,h.1⟩
  cases b <;> cases v <;> simp_all [mkV,Value.cells]
 ·cases ht
theorem key_ext {ks:List Sh × Bool} {a b:Value} (ha:keyS ks a=true) (hb:keyS ks b=true) (h:a.cells.toList=b.cells.toList):a=b:=by
 simp only [keyS,Bool.and_eq_true] at ha hb
 cases a <;> cases b <;> simp_all [Value.cells]
 all_goals (first | exact Array.ext' h | skip)
def keq (a b:Value):Bool:=veqL a.cells.toList b.cells.toList
theorem keq_iff {ks:List Sh × Bool} {a b:Value} (ha:keyS ks a=true) (hb:keyS ks b=true):keq a b=true↔a=b:=by
 have h1:=ha;have h2:=hb
 simp only [keyS,Bool.and_eq_true] at h1 h2
 unfold keq
 rw [veqL_eq h1.1 h2.1]
 exact⟨key_ext ha hb,fun e=>e▸rfl⟩
def findX (k:Value):List MapEntry→Nat→Option (Nat × Value)
 | [],_=>none
 | e::es,i=>if keq k e.key=true then some (i,e.val) else findX k es (i+1)
theorem sameNow_keq {ks:List Sh × Bool} {kind:TypeDesc} {a b:Value} {r:Bool} (ha:keyS ks a=true) (h:Instr.sameNow kind a b=some r):r=keq a b:=by
 unfold Instr.sameNow at h
 split at h
 ·split at h
  ·rename_i h1;subst h1;cases h
   simp only [keq,Value.cells,veqL,veq,decide_true,Bool.true_and,Bool.and_true]
   rw [Bool.eq_iff_iff];simp
  ·cases h
 ·cases h
  simp only [keq,Value.cells,veqL,veq,Bool.and_true,ba_beq]
 ·cases h
  simp only [keq,Value.cells,veqL,veq,Bool.and_true]
 ·cases h
theorem findNow_X {ks:List Sh × Bool} {kind:TypeDesc} {k:Value} (hk:keyS ks k=true):∀ {es:List MapEntry} {i:Nat} {r:Option (Nat × Value)},Instr.findNow kind k es i=some r→r=findX k es i
 | [],i,r,h=>by simp [Instr.findNow] at h;simp [findX,h]
 | e::es,i,r,h=>by
  unfold Instr.findNow at h
  split at h
  ·rename_i hs
   have:=sameNow_keq hk hs
   simp only [Option.some.injEq] at h
   simp [findX,← this,h]
  ·rename_i hs
   have:=sameNow_keq hk hs
   simp only [findX,← this,Bool.false_eq_true,if_false]
   exact findNow_X hk h
  ·cases h
theorem run_findAsking {t:TypeId} {ks:List Sh × Bool} {k:Value} (ht:keyT P t=some ks) (hk:keyS ks k=true) (w:World):∀ (es:List MapEntry) (i:Nat),(∀ e ∈ es,keyS ks e.key=true)→(Instr.findAsking t k es i).run P w=.ok (findX k es i) w
 | [],i,_=>by simp [Instr.findAsking,findX]
 | e::es,i,h=>by
  obtain⟨e1,h1,f1⟩:=keyS_mk ht hk
  obtain⟨e2,_,f2⟩:=keyS_mk ht (h e List.mem_cons_self)
  have:=eq_law 12 t ks.1 h1 10000 (by omega) _ _ w f1 f2
  rw [← e1,← e2] at this
  have ih:=run_findAsking ht hk w es (i+1) fun e' he'=>h e' (List.mem_cons_of_mem _ he')
  simp only [Instr.findAsking,Sem.run_bind,Op.equal,show Op.maxDepth=10000 from rfl,this,Result.andThen_ok,findX]
  change (if keq k e.key=true then _ else _:Sem _).run P w=_
  cases keq k e.key
  ·simpa using ih
  ·simp
theorem run_findKey {t:TypeId} {ks:List Sh × Bool} {k:Value} (ht:keyT P t=some ks) (hk:keyS ks k=true) (w:World) (es:List MapEntry) (h:∀ e ∈ es,keyS ks e.key=true):(Instr.findKey t k es).run P w=.ok (findX k es 0) w:=by
 have hu:∃ u,P.underlying t=some u:=by
  obtain⟨_,h1,_⟩:=keyS_mk ht hk
  unfold eqSh at h1
  cases hu:P.underlying t with
  | none=>simp [hu] at h1
  | some u=>exact⟨u,rfl⟩
 obtain⟨u,hu⟩:=hu
 simp only [Instr.findKey,Sem.run_bind,run_underlying hu,Result.andThen_ok]
 split
 ·rename_i r hr
  rw [findNow_X hk hr];rfl
 ·exact run_findAsking ht hk w es 0 h
theorem sameBits_scalar {a:Sh} {x:Value} (h:fit a x=true) (n:Nat):Instr.sameBits n x x=true:=by
 cases a <;> cases x <;> simp only [fit,Bool.false_eq_true] at h <;> cases n <;> simp [Instr.sameBits,ba_beq]
theorem fitL_all:∀ {sh:List Sh} {xs:List Value},fitL sh xs=true→∀ x ∈ xs,∃ a,fit a x=true
 | _::_,_::_,h,x,hx=>by
  simp only [fitL,Bool.and_eq_true] at h
  rcases List.mem_cons.1 hx with rfl | hx
  ·exact⟨_,h.1⟩
  ·exact fitL_all h.2 x hx
 | [],[],_,_,hx=>by cases hx
 | [],_::_,h,_,_=>by simp [fitL] at h
 | _::_,[],h,_,_=>by simp [fitL] at h
theorem run_stays {ks:List Sh × Bool} {k:Value} (hk:keyS ks k=true) (w:World):(Instr.keyThatStays k k).run P w=.ok k w:=by
 have hs:Instr.sameBits 10000 k k=true:=by
  simp only [keyS,Bool.and_eq_true] at hk
  have hall:=fitL_all hk.1
  by_cases hag:∃ xs,k=.agg xs
  ·obtain⟨xs,rfl⟩:=hag
   show Instr.sameBits (9999+1) _ _=true
   simp only [Instr.sameBits,beq_self_eq_true,Bool.true_and,List.all_eq_true]
   intro p hp
   obtain⟨i,hi,e⟩:=List.getElem_of_mem hp
   rw [List.getElem_zip] at e
   rw [← e]
   obtain⟨a,ha⟩:=hall (xs.toList[i]'(by simp at hi ⊢;omega)) (by simp [Value.cells])
   exact sameBits_scalar ha 9999
  ·have hc:k.cells.toList=[k]:=by
    cases k <;> simp [Value.cells]
    rename_i xs;exact absurd ⟨xs,rfl⟩ hag
   obtain⟨a,ha⟩:=hall k (by rw [hc];exact List.mem_cons_self)
   exact sameBits_scalar ha 10000
 simp [Instr.keyThatStays,hs]
abbrev Ent:=Nat × Value × V
def findM (es:List Ent) (k:Value):Option V:=(es.find? fun e=>keq k e.2.1).map (·.2.2)
def modM (k:Value) (v:V):List Ent→List Ent
 | []=>[]
 | e::r=>if keq k e.2.1=true then (e.1,e.2.1,v)::r else e::modM k v r
theorem modM_keys (k:Value) (v:V):∀ (es:List Ent),(modM k v es).map (·.1)=es.map (·.1)∧(modM k v es).map (·.2.1)=es.map (·.2.1)
 | []=>⟨rfl,rfl⟩
 | e::r=>by
  have:=modM_keys k v r
  unfold modM
  split
  ·exact⟨rfl,rfl⟩
  ·simp [this.1,this.2]
theorem find_pair {w:World} {I:Cells} {k:Value}:∀ {arr:List MapEntry} {es:List Ent} {i:Nat},arr.map (·.key)=es.map (·.2.1)→V.reps w I (es.map (·.2.2)) (arr.map (·.val)) →
  (findX k arr i=none∧findM es k=none)∨(∃ j x v,findX k arr i=some (i+j,x)∧findM es k=some v∧V.rep w I v x ∧
   ∃ a e b,arr=a++e::b∧a.length=j∧keq k e.key=true∧(∀ (y:Value) (u:V),V.rep w I u y→V.reps w I ((modM k u es).map (·.2.2)) ((a++{ e with val:=y }::b).map (·.val))))
 | [],[],i,_,_=>.inl ⟨rfl,rfl⟩
 | x::arr,e::es,i,hk,hr=>by
  simp only [List.map_cons,List.cons.injEq] at hk
  simp only [List.map_cons,V.reps] at hr
  by_cases hq:keq k x.key=true
  ·refine .inr ⟨0,x.val,e.2.2,by simp [findX,hq],?_,hr.1,[],x,arr,rfl,rfl,hq,fun y u hu=>?_⟩
   ·have:keq k e.2.1=true:=hk.1▸hq
    simp [findM,this]
   ·have:keq k e.2.1=true:=hk.1▸hq
    simp only [modM,this,if_true,List.nil_append,List.map_cons,V.reps]
    exact⟨hu,hr.2⟩
  ·have hq':¬ keq k e.2.1=true:=hk.1▸hq
   rcases find_pair (k:=k) (i:=i+1) hk.2 hr.2 with⟨h1,h2⟩ | ⟨j,z,v,h1,h2,h3,a,e',b,rfl,h5,h6,h7⟩
   ·left
    refine⟨by simp [findX,hq,h1],?_⟩
    simp only [findM,List.find?_cons,hq']
    simpa [findM] using h2
   ·right
    refine⟨j+1,z,v,by simp [findX,hq,h1];omega,?_,h3,x::a,e',b,rfl,by simp [h5],h6,fun y u hu=>?_⟩
    ·simp only [findM,List.find?_cons,hq']
     simpa [findM] using h2
    ·simp only [modM,hq',if_false,Bool.false_eq_true,List.cons_append,List.map_cons,V.reps]
     exact⟨hr.1,by simpa using h7 y u hu⟩
 | [],_::_,_,h,_=>by simp at h
 | _::_,[],_,h,_=>by simp at h
def setX:List (Nat × B)→Nat→B→List (Nat × B)
 | [],_,_=>[]
 | (b,y)::r,x,z=>if x=b then (b,z)::r else (b,y)::setX r x z
theorem setX_keys:∀ (bs:List (Nat × B)) (x:Nat) (z:B),(setX bs x z).map (·.1)=bs.map (·.1)
 | [],_,_=>rfl
 | (b,y)::r,x,z=>by
  unfold setX
  split
  ·rfl
  ·simp [setX_keys r x z]
theorem setX_mem:∀ {bs:List (Nat × B)} {x:Nat} {z:B} {p:Nat × B},(bs.map (·.1)).Nodup→p ∈ setX bs x z→p=(x,z)∨(p ∈ bs∧p.1 ≠ x)
 | (b,y)::r,x,z,p,hn,hp=>by
  unfold setX at hp
  simp only [List.map_cons,List.nodup_cons] at hn
  split at hp
  ·rename_i e;subst e
   rcases List.mem_cons.1 hp with rfl | hp
   ·exact .inl rfl
   ·exact .inr ⟨List.mem_cons_of_mem _ hp,fun e=>hn.1 (e▸List.mem_map.2 ⟨p,hp,rfl⟩)⟩
  ·rename_i e
   rcases List.mem_cons.1 hp with rfl | hp
   ·exact .inr ⟨List.mem_cons_self,fun e'=>e e'.symm⟩
   ·exact(setX_mem hn.2 hp).imp id fun h=>⟨List.mem_cons_of_mem _ h.1,h.2⟩
 | [],_,_,_,_,hp=>by simp [setX] at hp
def getM:List (Nat × B)→Nat→Option ((List Sh × Bool) × List Ent × Nat)
 | [],_=>none
 | (b,.m ks es cl)::r,x=>if x=b then some (ks,es,cl) else getM r x
 | (b,_)::r,x=>if x=b then none else getM r x
theorem getM_mem:∀ {bs:List (Nat × B)} {x:Nat} {ks es cl},getM bs x=some (ks,es,cl)→(x,.m ks es cl) ∈ bs
 | (b,.m _ _ _)::r,x,ks,es,cl,h=>by
  unfold getM at h
  split at h
  ·rename_i e;subst e;cases h;exact List.mem_cons_self
  ·exact List.mem_cons_of_mem _ (getM_mem h)
 | (b,.c _)::r,x,ks,es,cl,h=>by
  unfold getM at h
  split at h
  ·cases h
  ·exact List.mem_cons_of_mem _ (getM_mem h)
 | (b,.obj _)::r,x,ks,es,cl,h=>by
  unfold getM at h
  split at h
  ·cases h
  ·exact List.mem_cons_of_mem _ (getM_mem h)
 | (b,.it _ _ _ _)::r,x,ks,es,cl,h=>by
  unfold getM at h
  split at h
  ·cases h
  ·exact List.mem_cons_of_mem _ (getM_mem h)
def getI:List (Nat × B)→Nat→Option (Nat × Nat × List Nat × Nat)
 | [],_=>none
 | (b,.it mb since seen last)::r,x=>if x=b then some (mb,since,seen,last) else getI r x
 | (b,_)::r,x=>if x=b then none else getI r x
theorem getI_mem:∀ {bs:List (Nat × B)} {x:Nat} {mb since seen last},getI bs x=some (mb,since,seen,last)→(x,.it mb since seen last) ∈ bs
 | (b,.it _ _ _ _)::r,x,mb,since,seen,last,h=>by
  unfold getI at h
  split at h
  ·rename_i e;subst e;cases h;exact List.mem_cons_self
  ·exact List.mem_cons_of_mem _ (getI_mem h)
 | (b,.c _)::r,x,mb,since,seen,last,h=>by
  unfold getI at h
  split at h
  ·cases h
  ·exact List.mem_cons_of_mem _ (getI_mem h)
 | (b,.obj _)::r,x,mb,since,seen,last,h=>by
  unfold getI at h
  split at h
  ·cases h
  ·exact List.mem_cons_of_mem _ (getI_mem h)
 | (b,.m _ _ _)::r,x,mb,since,seen,last,h=>by
  unfold getI at h
  split at h
  ·cases h
  ·exact List.mem_cons_of_mem _ (getI_mem h)
def setBlk (w:World) (r:Nat) (o:Obj):World:={ w with heap:=w.heap.setIfInBounds r o }
theorem setBlk_at {w:World} {r:Nat} {o o':Obj} (h:w.heap[r]? = some o):(setBlk w r o').heap[r]? = some o':=by
 have hlt:r < w.heap.size:=(Array.getElem?_eq_some_iff.1 h).1
 simp [setBlk,hlt]
theorem setBlk_ne (w:World) (r r':Nat) (o':Obj) (h:r' ≠ r):(setBlk w r o').heap[r']? = w.heap[r']? := by
 simp [setBlk,Ne.symm h]
theorem run_setBlk {w:World} {r:Nat} {o:Obj} (o':Obj) (h:w.heap[r]? = some o) (hc:∀ c e f,o ≠ .cells c e f):(setObj r o').run P w=.ok () (setBlk w r o'):=by
 cases o <;> simp_all [setObj,Sem.run,setBlk]
theorem ΓW.setX {C S w I b} {o o':Obj} {z:B} (h:ΓW C S w I) (hb:b ∈ S.boxes.map (·.1)) (hw:w.heap[b]? = some o) (hz:∀ w',(∀ r,r ≠ b→w'.heap[r]? = w.heap[r]?)→w'.heap[b]? = some o'→Stays w I w' I→BoxAt w' I b z) :
  ΓW C (S.setBoxes (VL.setX S.boxes b z)) (setBlk w b o') I∧Stays w I (setBlk w b o') I:=by
 have hbI:∀ o,¬ I b o:=by
  obtain⟨p,hp,rfl⟩:=List.mem_map.1 hb
  exact(h.heap.bx p hp).out
 have hcell:∀ b' o,I b' o→(setBlk w b o').cell? ⟨b',o,none⟩=w.cell? ⟨b',o,none⟩:=fun b' o hi=>by
  have hne:b' ≠ b:=fun e=>hbI o (e▸hi)
  have:=setBlk_ne w b b' o' hne
  unfold World.cell?
  rw [this]
 have hnd:∀ x,o ≠ .deferred x:=by
  obtain⟨p,hp,e⟩:=List.mem_map.1 hb
  subst e
  exact(h.heap.bx p hp).notD hw
 have hst:Stays w I (setBlk w b o') I:=.but b hw hnd (fun b' o hi=>⟨hi,hcell b' o hi⟩) (fun b' hb'=>setBlk_ne w b b' o' hb')
 have hn:(S.boxes.map (·.1)).Nodup:=(List.nodup_append.1 h.heap.nodup).1
 have hblk:b ∈ blks S.boxes S.rows:=List.mem_append.2 (.inl hb)
 refine⟨⟨⟨fun p hp=>?_,fun r hr=>?_,?_,fun b' o hi=>by simpa [setBlk] using h.heap.inn b' o hi,h.heap.glob.mono hst⟩,?_,?_,h.lo⟩,hst⟩
 ·rcases setX_mem hn hp with rfl | ⟨hp,hne⟩
  ·exact hz _ (fun r hr=>setBlk_ne w b r o' hr) (setBlk_at hw) hst
  ·exact(h.heap.bx p hp).mono hst (setBlk_ne w b p.1 o' hne) fun _ hi=>hi
 ·refine(h.heap.rw r hr).mono (fun g hg=>setBlk_ne w b g o' fun e=>?_) fun _ _ _ hi=>hi
  subst e
  exact(List.nodup_append.1 h.heap.nodup).2.2 g hb g (List.mem_filterMap.2 ⟨r,hr,hg⟩) rfl
 ·simp only [blks,St.setBoxes,setX_keys];exact h.heap.nodup
 ·simp only [blks,St.setBoxes,setX_keys];exact h.mine
 ·exact h.keeps.trans ⟨rfl,rfl,rfl,by simp [setBlk],fun b' hb'=>setBlk_ne w b b' o' (fun e=>h.mine b hblk (e▸hb')),hst,fun _ _ _ hi=>hi,Nat.le_refl _⟩
theorem ΓW.newB {C S w I} (h:ΓW C S w I) (o:Obj) (x:B) (hx:BoxAt (w.alloc o) I w.heap.size x):ΓW C (S.addB w.heap.size x) (w.alloc o) I:=by
 have hA:=h.alloc o
 refine⟨⟨fun p hp=>?_,hA.heap.rw,?_,hA.heap.inn,hA.heap.glob⟩,fun b hb=>?_,hA.keeps,hA.lo⟩
 ·rcases List.mem_cons.1 hp with rfl | hp
  ·exact hx
  ·exact hA.heap.bx p hp
 ·simp only [blks,St.addB,List.map_cons,List.cons_append,List.nodup_cons]
  exact⟨h.fresh,h.heap.nodup⟩
 ·simp only [blks,St.addB,List.map_cons,List.cons_append,List.mem_cons] at hb
  rcases hb with rfl | hb
  ·exact h.notF
  ·exact h.mine b hb
def valV:Value→V
 | .agg xs=>.agg (xs.toList.map .lit)
 | v=>.lit v
theorem valV_rep {w:World} {I:Cells} (v:Value):V.rep w I (valV v) v:=by
 cases v <;> simp only [valV,V.rep]
 exact⟨_,rfl,reps_lits _⟩
def zeroV (P:Program) (t:TypeId):Option V:=((P.info? t).bind fun i=>i.zero).map valV
theorem run_zeroV {P:Program} {t:TypeId} {z:V} (h:zeroV P t=some z) (w:World) (I:Cells):∃ v,(zeroValue t).run P w=.ok v w∧V.rep w I z v:=by
 unfold zeroV at h
 cases hi:P.info? t with
 | none=>simp [hi] at h
 | some i =>
  cases hz:i.zero with
  | none=>simp [hi,hz] at h
  | some v =>
   simp [hi,hz] at h
   exact⟨v,by simp [zeroValue,typeInfo,hi,hz],h▸valV_rep v⟩
def mapT (P:Program) (t:TypeId):Option (TypeId × (List Sh × Bool) × V):=match P.underlying t with
 | some (.map kt et)=>match keyT P kt,zeroV P et with
  | some ks,some z=>some (kt,ks,z)
  | _,_=>none
 | _=>none
theorem mapT_spec {t kt:TypeId} {ks:List Sh × Bool} {z:V} (h:mapT P t=some (kt,ks,z)):∃ et,P.underlying t=some (.map kt et)∧keyT P kt=some ks∧zeroV P et=some z:=by
 unfold mapT at h
 split at h
 ·rename_i k e hu
  split at h
  ·rename_i a b h1 h2;cases h;exact⟨e,hu,h1,h2⟩
  ·cases h
 ·cases h
def makeMapK (P:Program) (S:St) (d:Option Nat) (t:TypeId) (r:Option V) (K:St→Prop):Prop :=
 match mapT P t with
 | some (_,ks,_)=>(r=none∨∃ k n,r=some (.lit (.int k n)))∧∀ b,b ∉ blks S.boxes S.rows→K ((S.addB b (.m ks [] 0)).put d (.lit (.map (some b))))
 | none=>False
theorem step_makeMap {C S} {o:Oper} {t:TypeId} {r:Option Operand} {K:St→Prop} (ho:o.op=.makeMap t r) (hd:dstOk C.N o=true) (h:makeMapK C.P S o.dst t (r.map (VL.ev S.σ)) K):Step C S o K:=by
 unfold makeMapK at h
 split at h
 ·rename_i kt ks z hT
  obtain⟨et,hu,hks,hz⟩:=mapT_spec hT
  ·obtain⟨hr,hK⟩:=h
   refine Step.of_value fun a w I hΓ=>?_
   have hx:BoxAt (w.alloc (.map #[] 0)) I w.heap.size (.m ks [] 0):=⟨#[],heap_new w _,⟨rfl,rfl,by simp,by simp,by simp⟩,by simp [V.reps],fun o hi=>by have:=hΓ.2.heap.inn _ _ hi;omega⟩
   refine⟨.map (some w.heap.size),w.alloc (.map #[] 0),_,I,?_,⟨(hΓ.1.mono (Keeps.new _ hΓ.2.heap.inn).stays).put o.dst (dstOk_spec hd) (v:=.lit (.map (some w.heap.size))) (by simp only [V.rep]),(hΓ.2.newB _ _ hx).put _ _⟩,hK _ hΓ.2.fresh⟩
   simp only [execOp,ho]
   cases r with
   | none=>simp [Instr.makeMap]
   | some x =>
    simp only [Option.map_some,reduceCtorEq,false_or,Option.some.injEq] at hr
    obtain⟨k,n,hr⟩:=hr
    have rx:=hΓ.ev x
    rw [hr] at rx
    simp only [V.rep] at rx
    simp [Instr.makeMap,rx,run_underlying hu,asInt,asIntOf]
 ·exact h.elim
def keyV:V→Option Value
 | .lit v=>some v
 | .agg vs=>(vals vs).map fun l=>.agg l.toArray
 | _=>none
theorem keyV_spec {w:World} {I:Cells} {v:V} {k x:Value} (h:keyV v=some k) (hr:V.rep w I v x):x=k:=by
 cases v <;> simp only [keyV,reduceCtorEq] at h
 case lit y=>simp only [V.rep] at hr;cases h;exact hr
 case agg vs =>
  simp only [Option.map_eq_some_iff] at h
  obtain⟨l,hl,rfl⟩:=h
  simp only [V.rep] at hr
  obtain⟨xs,rfl,hr⟩:=hr
  rw [← vals_spec hl hr]
inductive Fix {α:Sort _} (a:α):Type | mk
def onFind (o:Option V) (A:V→Prop) (B:Prop) (_:Fix A) (_:Fix B):Prop:=match o with | some v=>A v | none=>B
def lookD (S:St) (ks:List Sh × Bool) (z:V) (kv:Value) (x:V) (ok:Bool) (K:V→Prop):Prop :=
 match x with
 | .lit (.map none)=>K (if ok=true then .tup [z,.lit (.bool false)] else z)
 | .lit (.map (some b))=>match getM S.boxes b with
  | some (ks',es,_)=>ks'=ks∧onFind (findM es kv) (fun v=>K (if ok=true then .tup [v,.lit (.bool true)] else v)) (K (if ok=true then .tup [z,.lit (.bool false)] else z)) .mk .mk
  | none=>False
 | _=>False
def lookK (P:Program) (S:St) (t:TypeId) (x k:V) (ok:Bool) (K:V→Prop):Prop :=
 match mapT P t with
 | some (_,ks,z)=>match keyV k with
  | some kv=>keyS ks kv=true∧lookD S ks z kv x ok K
  | none=>False
 | none=>False
theorem MapAt.all {w:World} {I:Cells} {b:Nat} {ks:List Sh × Bool} {es:List Ent} {cl:Nat} (h:BoxAt w I b (.m ks es cl)):∃ arr,w.heap[b]? = some (.map arr cl)∧arr.toList.map (·.born)=es.map (·.1)∧arr.toList.map (·.key)=es.map (·.2.1)∧(∀ e ∈ arr.toList,keyS ks e.key=true) ∧
  (∀ e ∈ es,keyS ks e.2.1=true)∧(es.map (·.1)).Pairwise (· < ·)∧(∀ e ∈ es,e.1 < cl)∧V.reps w I (es.map (·.2.2)) (arr.toList.map (·.val))∧∀ o,¬ I b o:=by
 obtain⟨arr,h1,⟨h2,h3,h4,h5,h6⟩,h7,h8⟩:=h
 refine⟨arr,h1,h2,h3,fun e he=>?_,h4,h5,h6,h7,h8⟩
 have:e.key ∈ es.map (·.2.1):=h3▸List.mem_map.2 ⟨e,he,rfl⟩
 obtain⟨e',he',hk⟩:=List.mem_map.1 this
 rw [← hk];exact h4 e' he'
theorem lookK_spec {C:Ctx} {S:St} {t:TypeId} {x k:V} {ok:Bool} {K:V→Prop} (h:lookK C.P S t x k ok K) :
  ∃ v,K v∧∀ w I vx vk,ΓW C S w I→V.rep w I x vx→V.rep w I k vk→∃ y,(Instr.lookup t vx vk ok).run C.P w=.ok y w∧V.rep w I v y:=by
 unfold lookK at h
 split at h
 ·rename_i kt ks z hT
  obtain⟨et,hu,hks,hz⟩:=mapT_spec hT
  split at h
  ·rename_i kv hkv
   obtain⟨hkS,h⟩:=h
   unfold lookD at h
   obtain⟨ekv,hsh,hfit⟩:=keyS_mk hks hkS
   have pk:∀ (v:V) (b:Bool) w I y,V.rep w I v y→V.rep w I (if ok=true then .tup [v,.lit (.bool b)] else v) (if ok=true then .tuple #[y,.bool b] else y):=fun v b w I y hy=>by
    cases ok
    ·simpa using hy
    ·simp only [if_true,V.rep]
     exact⟨_,rfl,by simp only [V.reps,V.rep];exact⟨hy,trivial,trivial⟩⟩
   have hck:∀ w em,(Instr.checkKey em 10000 kt kv).run C.P w=.ok () w:=fun w em=>by
    rw [ekv];exact check_law 12 kt ks.1 hsh 10000 (by omega) _ w hfit
   split at h
   ·refine⟨_,h,fun w I vx vk hW hx hk=>?_⟩
    obtain rfl:=keyV_spec hkv hk
    simp only [V.rep] at hx
    subst hx
    obtain⟨y,hy,hr⟩:=run_zeroV hz w I
    refine⟨_,?_,pk z false w I y hr⟩
    have hf:=run_findKey hks hkS w [] (by simp)
    simp only [Instr.lookup,Sem.run_bind,run_underlying hu,Result.andThen_ok,Sem.run_pure,hck,hf,findX,hy]
    all_goals (cases ok <;> rfl)
   ·rename_i b
    split at h
    ·rename_i ks' es cl hm
     obtain⟨rfl,h⟩:=h
     cases hfm:findM es kv with
     | none =>
      rw [hfm] at h
      refine⟨_,h,fun w I vx vk hW hx hk=>?_⟩
      obtain rfl:=keyV_spec hkv hk
      simp only [V.rep] at hx
      subst hx
      obtain⟨arr,g1,g2,g3,g4,g5,g6,g7,g8,g9⟩:=MapAt.all (hW.heap.bx _ (getM_mem hm))
      obtain⟨y,hy,hr⟩:=run_zeroV hz w I
      refine⟨_,?_,pk z false w I y hr⟩
      have hf:=run_findKey hks hkS w arr.toList g4
      rcases find_pair (i:=0) g3 g8 (k:=vk) with⟨q1,q2⟩ | ⟨j,x,v,q1,q2,_⟩
      ·simp only [Instr.lookup,Sem.run_bind,run_underlying hu,Result.andThen_ok,Sem.run_pure,MapKept.run_getObj_map g1,hck,hf,q1,hy]
       all_goals (cases ok <;> rfl)
      ·rw [hfm] at q2;cases q2
     | some v =>
      rw [hfm] at h
      refine⟨_,h,fun w I vx vk hW hx hk=>?_⟩
      obtain rfl:=keyV_spec hkv hk
      simp only [V.rep] at hx
      subst hx
      obtain⟨arr,g1,g2,g3,g4,g5,g6,g7,g8,g9⟩:=MapAt.all (hW.heap.bx _ (getM_mem hm))
      have hf:=run_findKey hks hkS w arr.toList g4
      rcases find_pair (i:=0) g3 g8 (k:=vk) with⟨q1,q2⟩ | ⟨j,x,v',q1,q2,q3,_⟩
      ·rw [hfm] at q2;cases q2
      ·rw [hfm] at q2;cases q2
       refine⟨_,?_,pk v true w I x q3⟩
       simp only [Instr.lookup,Sem.run_bind,run_underlying hu,Result.andThen_ok,Sem.run_pure,MapKept.run_getObj_map g1,hck,hf,q1]
       all_goals (cases ok <;> rfl)
    ·exact h.elim
   ·exact h.elim
  ·exact h.elim
 ·exact h.elim
theorem step_lookup {C S} {o:Oper} {t:TypeId} {x k:Operand} {ok:Bool} {K:St→Prop} (ho:o.op=.lookup t x k ok) (hd:dstOk C.N o=true) (h:lookK C.P S t (VL.ev S.σ x) (VL.ev S.σ k) ok fun v=>K (S.put o.dst v)):Step C S o K:=by
 obtain⟨v,hK,hv⟩:=lookK_spec (C:=C) h
 refine Step.of_value fun a w I hΓ=>?_
 obtain⟨y,hy,hr⟩:=hv w I _ _ hΓ.2 (hΓ.ev x) (hΓ.ev k)
 exact⟨y,w,_,I,by simp only [execOp,ho,Sem.run_bind,hy,Result.andThen_ok,Sem.run_pure],⟨hΓ.1.put o.dst (dstOk_spec hd) hr,hΓ.2.put _ _⟩,hK⟩
def updD (S:St) (d:Option Nat) (ks:List Sh × Bool) (kv:Value) (x v:V) (K:St→Prop):Prop :=
 match x with
 | .lit (.map (some b))=>match getM S.boxes b with
  | some (ks',es,cl)=>ks'=ks∧onFind (findM es kv) (fun _=>K ((S.setBoxes (VL.setX S.boxes b (.m ks (modM kv v es) cl))).put d .any)) (K ((S.setBoxes (VL.setX S.boxes b (.m ks (es++[(cl,kv,v)]) (cl+1)))).put d .any)) .mk .mk
  | none=>False
 | _=>False
def updK (P:Program) (S:St) (d:Option Nat) (t:TypeId) (x k v:V) (K:St→Prop):Prop :=
 match mapT P t with
 | some (_,ks,_)=>match keyV k with
  | some kv=>keyS ks kv=true∧updD S d ks kv x v K
  | none=>False
 | none=>False
theorem lmod {α:Type} (f:α→α) (e:α) (b:List α):∀ a:List α,(a++e::b).modify a.length f=a++f e::b
 | []=>rfl
 | x::a=>by
  have:=lmod f e b a
  simpa using this
theorem modify_at {α:Type} (f:α→α) (a:List α) (e:α) (b:List α):((a++e::b).toArray.modify a.length f).toList=a++f e::b:=by
 rw [Array.toList_modify];exact lmod f e b a
theorem step_mapUpdate {C S} {o:Oper} {t:TypeId} {x k v:Operand} {K:St→Prop} (ho:o.op=.mapUpdate t x k v) (hd:dstOk C.N o=true) (h:updK C.P S o.dst t (VL.ev S.σ x) (VL.ev S.σ k) (VL.ev S.σ v) K):Step C S o K:=by
 unfold updK at h
 split at h
 ·rename_i kt ks z hT
  obtain⟨et,hu,hks,hz⟩:=mapT_spec hT
  split at h
  rename_i kv hkv
  obtain⟨hkS,h⟩:=h
  unfold updD at h
  split at h
  ·rename_i b hx
   split at h
   ·rename_i ks' es cl hm
    obtain⟨rfl,h⟩:=h
    obtain⟨ekv,hsh,hfit⟩:=keyS_mk hks hkS
    have hmem:=getM_mem hm
    have hb:b ∈ S.boxes.map (·.1):=List.mem_map.2 ⟨_,hmem,rfl⟩
    have hck:∀ w,(Instr.checkKey false 10000 kt kv).run C.P w=.ok () w:=fun w=>by
     rw [ekv];exact check_law 12 kt ks'.1 hsh 10000 (by omega) _ w hfit
    refine Step.of_skip fun a w I hΓ=>?_
    have rx:=hΓ.ev x
    rw [hx] at rx
    simp only [V.rep] at rx
    have rk:=keyV_spec hkv (hΓ.ev k)
    have rv:=hΓ.ev v
    obtain⟨arr,g1,g2,g3,g4,g5,g6,g7,g8,g9⟩:=MapAt.all (hΓ.2.heap.bx _ hmem)
    have hf:=run_findKey hks hkS w arr.toList g4
    rcases find_pair (i:=0) g3 g8 (k:=kv) with⟨q1,q2⟩ | ⟨j,z,v',q1,q2,q3,A,e,R,q4,q5,q6,q7⟩
    ·rw [q2] at h
     have hz:∀ w',(∀ r,r ≠ b→w'.heap[r]? = w.heap[r]?)→w'.heap[b]? = some (.map (arr.push { key:=kv,val:=a.eval v,born:=cl }) (cl+1))→Stays w I w' I→BoxAt w' I b (.m ks' (es++[(cl,kv,VL.ev S.σ v)]) (cl+1)):=fun w' _ h1 hs=>by
      refine⟨_,h1,⟨by simp [g2],by simp [g3],?_,?_,?_⟩,?_,g9⟩
      ·intro e he
       rcases List.mem_append.1 he with he | he
       ·exact g5 e he
       ·simp only [List.mem_singleton] at he;subst he;exact hkS
      ·rw [List.map_append,List.pairwise_append]
       refine⟨g6,by simp,fun a' ha b' hb'=>?_⟩
       simp only [List.map_cons,List.map_nil,List.mem_singleton] at hb'
       obtain⟨e,he,rfl⟩:=List.mem_map.1 ha
       subst hb'
       exact g7 e he
      ·intro e he
       rcases List.mem_append.1 he with he | he
       ·exact Nat.lt_succ_of_lt (g7 e he)
       ·simp only [List.mem_singleton] at he;subst he;exact Nat.lt_succ_self _
      ·simp only [Array.toList_push,List.map_append,List.map_cons,List.map_nil]
       exact reps_append (V.reps_mono hs _ _ g8) (by simp only [V.reps,and_true];exact V.rep_mono hs _ _ rv)
     obtain⟨hW,hS⟩:=hΓ.2.setX hb g1 hz
     refine⟨_,_,I,?_,⟨(hΓ.1.mono hS).put o.dst (dstOk_spec hd) (v:=.any) (by simp only [V.rep]),hW.put _ _⟩,h⟩
     simp only [execOp,ho,rx,rk,Instr.mapUpdate,Sem.run_bind,run_underlying hu,Result.andThen_ok,MapKept.run_getObj_map g1,hck,hf,q1,run_setBlk _ g1 (fun _ _ _ h=>by cases h),Sem.run_pure]
    ·rw [q2] at h
     have ekey:e.key=kv:=((keq_iff hkS (g4 e (by rw [q4];simp))).1 q6).symm
     have harr:arr=(A++e::R).toArray:=by rw [← q4]
     have hz:∀ w',(∀ r,r ≠ b→w'.heap[r]? = w.heap[r]?)→w'.heap[b]? = some (.map (arr.modify j fun e=>{ e with key:=kv,val:=a.eval v }) cl)→Stays w I w' I→BoxAt w' I b (.m ks' (modM kv (VL.ev S.σ v) es) cl):=fun w' _ h1 hs=>by
      have hml:(arr.modify j fun e=>{ e with key:=kv,val:=a.eval v }).toList=A++{ e with val:=a.eval v }::R:=by
       rw [harr,← q5,modify_at]
       congr 2
       rw [← ekey]
      refine⟨_,h1,⟨?_,?_,?_,?_,?_⟩,?_,g9⟩
      ·rw [hml,(modM_keys _ _ _).1,← g2,q4];simp
      ·rw [hml,(modM_keys _ _ _).2,← g3,q4];simp
      ·intro e' he'
       have:e'.2.1 ∈ (modM kv (VL.ev S.σ v) es).map (·.2.1):=List.mem_map.2 ⟨e',he',rfl⟩
       rw [(modM_keys _ _ _).2] at this
       obtain⟨e2,h2,h3⟩:=List.mem_map.1 this
       rw [← h3];exact g5 e2 h2
      ·rw [(modM_keys _ _ _).1];exact g6
      ·intro e' he'
       have:e'.1 ∈ (modM kv (VL.ev S.σ v) es).map (·.1):=List.mem_map.2 ⟨e',he',rfl⟩
       rw [(modM_keys _ _ _).1] at this
       obtain⟨e2,h2,h3⟩:=List.mem_map.1 this
       rw [← h3];exact g7 e2 h2
      ·rw [hml];exact V.reps_mono hs _ _ (q7 _ _ rv)
     obtain⟨hW,hS⟩:=hΓ.2.setX hb g1 hz
     refine⟨_,_,I,?_,⟨(hΓ.1.mono hS).put o.dst (dstOk_spec hd) (v:=.any) (by simp only [V.rep]),hW.put _ _⟩,h⟩
     have hget:((arr[j]?).map (·.key)).getD kv=kv:=by
      rw [harr,← q5];simp [ekey]
     simp only [execOp,ho,rx,rk,Instr.mapUpdate,Sem.run_bind,run_underlying hu,Result.andThen_ok,MapKept.run_getObj_map g1,hck,hf,q1,Nat.zero_add,hget,run_stays hkS,run_setBlk _ g1 (fun _ _ _ h=>by cases h),Sem.run_pure]
   ·exact h.elim
  ·exact h.elim
  ·exact h.elim
 ·exact h.elim
def rangeK (P:Program) (S:St) (d:Option Nat) (t:TypeId) (x:V) (K:St→Prop):Prop :=
 match P.underlying t,x with
 | some (.map _ _),.lit (.map (some b))=>match getM S.boxes b with
  | some (_,_,cl)=>∀ ib,ib ∉ blks S.boxes S.rows→K ((S.addB ib (.it b cl [] cl)).put d (.lit (.pointer (some ⟨ib,0,none⟩))))
  | none=>False
 | _,_=>False
theorem step_range {C S} {o:Oper} {t:TypeId} {x:Operand} {K:St→Prop} (ho:o.op=.range t x) (hd:dstOk C.N o=true) (h:rangeK C.P S o.dst t (VL.ev S.σ x) K):Step C S o K:=by
 unfold rangeK at h
 split at h
 ·rename_i kt et b hu hx
  split at h
  ·rename_i ks es cl hm
   refine Step.of_value fun a w I hΓ=>?_
   have rx:=hΓ.ev x
   rw [hx] at rx
   simp only [V.rep] at rx
   obtain⟨arr,g1,_⟩:=MapAt.all (hΓ.2.heap.bx _ (getM_mem hm))
   have hB:BoxAt (w.alloc (.mapIter (some b) cl #[] cl)) I w.heap.size (.it b cl [] cl):=⟨heap_new w _,fun o hi=>by have:=hΓ.2.heap.inn _ _ hi;omega⟩
   refine⟨.pointer (some ⟨w.heap.size,0,none⟩),_,_,I,?_,⟨(hΓ.1.mono (Keeps.new _ hΓ.2.heap.inn).stays).put o.dst (dstOk_spec hd) (v:=.lit (.pointer (some ⟨w.heap.size,0,none⟩))) (by simp only [V.rep]),(hΓ.2.newB _ _ hB).put _ _⟩,h _ hΓ.2.fresh⟩
   simp only [execOp,ho,rx,Sem.run_bind,run_range_map w t kt et b arr cl hu g1,Result.andThen_ok,Sem.run_pure]
  ·exact h.elim
 ·exact h.elim
def leftE (es:List Ent) (seen:List Nat):List Ent:=es.filter fun e=>!seen.contains e.1
def nextK (S:St) (d:Option Nat) (it:V) (K:St→Prop):Prop :=
 match it with
 | .lit (.pointer (some ⟨ib,0,none⟩))=>match getI S.boxes ib with
  | some (mb,since,seen,last)=>match getM S.boxes mb with
   | some (_,es,cl)=>(since=cl∧last=cl)∧(leftE es seen=[]→K (S.put d (.tup [.lit (.bool false)]))) ∧
     ∀ e,e ∈ leftE es seen→es.find? (fun x=>x.1 == e.1)=some e→K ((S.setBoxes (VL.setX S.boxes ib (.it mb since (seen++[e.1]) cl))).put d (.tup [.lit (.bool true),valV e.2.1,e.2.2]))
   | none=>False
  | none=>False
 | _=>False
theorem find_ent:∀ {es:List Ent} {e:Ent},(es.map (·.1)).Pairwise (· < ·)→e ∈ es→es.find? (fun x=>x.1 == e.1)=some e
 | x::es,e,hp,he=>by
  simp only [List.map_cons,List.pairwise_cons] at hp
  rcases List.mem_cons.1 he with rfl | he
  ·simp
  ·have:=hp.1 e.1 (List.mem_map.2 ⟨e,he,rfl⟩)
   rw [List.find?_cons]
   have hne:(x.1 == e.1)=false:=by simp;omega
   rw [hne]
   exact find_ent hp.2 he
theorem run_next {w:World} {ty:TypeId} {ib mb since last:Nat} {seen:Array Nat} {arr:Array MapEntry} {cl:Nat} (h1:w.heap[ib]? = some (.mapIter (some mb) since seen last)) (hb:w.heap[mb]? = some (.map arr cl)) (hold:∀ x ∈ arr.toList,x.born < since) (hsc:since≤last) :
  (leftOf arr seen=#[]∧(Instr.next (.pointer (some ⟨ib,0,none⟩)) false ty).run P w=.ok (.tuple #[.bool false]) w) ∨
  ∃ e ∈ (leftOf arr seen).toList,∃ w1:World,(w1=w∨w1=w.drew)∧(Instr.next (.pointer (some ⟨ib,0,none⟩)) false ty).run P w=.ok (.tuple #[.bool true,e.key,e.val]) (setBlk w1 ib (.mapIter (some mb) since (seen.push e.born) cl)):=by
 simp only [Instr.next,getObj,Sem.run_bind,Sem.run,h1,hb,Result.andThen,next_test_false seen arr since last hold hsc,Bool.false_eq_true,if_false]
 unfold leftOf
 have hmem:∀ x ∈ (Array.filter (fun e=>!seen.contains e.born) arr).toList,x.born < since:=fun x hx=>hold x (by simp at hx ⊢;exact hx.1)
 generalize Array.filter (fun e=>!seen.contains e.born) arr=L at hmem ⊢
 have e1:L.filter (fun x=>decide (x.born < since))=L:=Array.filter_eq_self.2 (fun x hx=>by simpa using hmem x (by simpa using hx))
 have e2:L.filter (fun x=>decide (x.born ≥ since))=#[]:=by
  rw [Array.filter_eq_empty_iff]
  intro x hx
  have:=hmem x (by simpa using hx)
  simp
  omega
 simp only [e1,e2,Array.append_empty]
 by_cases h0:L.size=0
 ·left
  have:L=#[]:=Array.eq_empty_of_size_eq_zero h0
  subst this
  refine⟨rfl,?_⟩
  simp [choose,Sem.run,Question.forced]
 ·right
  have hne:L.isEmpty=false:=by simp [Array.isEmpty,h0]
  simp only [hne,Bool.false_eq_true,if_false,Array.empty_append,Array.size_map]
  have hch:∃ (j:Nat) (w1:World),j < L.size∧(w1=w∨w1=w.drew)∧(choose (Question.mapNext L.size)).run P w=.ok j w1:=by
   by_cases hf:L.size≤1
   ·exact⟨0,w,by omega,.inl rfl,by simp [choose,Sem.run,Question.forced,hf]⟩
   ·exact⟨_,w.drew,Nat.mod_lt _ (by omega),.inr rfl,by
     simp only [choose,Sem.run,Question.forced,decide_eq_true_eq,hf,if_false,Question.cut]
     rfl⟩
  obtain⟨j,w1,hj,hal,hrun⟩:=hch
  refine⟨L[j],by simp,w1,hal,?_⟩
  have h1':w1.heap[ib]? = some (.mapIter (some mb) since seen last):=by rcases hal with rfl | rfl <;> exact h1
  have hset:=fun o'=>run_setBlk (P:=P) o' h1' (fun _ _ _ h=>by cases h)
  simp only [hrun,Array.getElem?_map,Array.getElem?_eq_getElem hj,Option.map_some,Sem.run_bind,hset,Result.andThen]
  rfl
theorem step_next {C S} {o:Oper} {x:Operand} {K:St→Prop} (ho:o.op=.next x false) (hd:dstOk C.N o=true) (h:nextK S o.dst (VL.ev S.σ x) K):Step C S o K:=by
 unfold nextK at h
 split at h
 ·rename_i ib hx
  split at h
  ·rename_i mb since seen last hi
   split at h
   ·rename_i ks es cl hm
    obtain⟨⟨rfl,rfl⟩,h0,h1⟩:=h
    refine Step.of_value fun a w I hΓ=>?_
    have rx:=hΓ.ev x
    rw [hx] at rx
    simp only [V.rep] at rx
    obtain⟨arr,g1,g2,g3,g4,g5,g6,g7,g8,g9⟩:=MapAt.all (hΓ.2.heap.bx _ (getM_mem hm))
    have gi:=hΓ.2.heap.bx _ (getI_mem hi)
    have gi':w.heap[ib]? = some (.mapIter (some mb) last seen.toArray last):=gi.1
    have hlen:arr.toList.length=es.length:=by have:=congrArg List.length g2;simpa using this
    have side:∀ e ∈ arr.toList,∃ e' ∈ es,e'.1=e.born∧e'.2.1=e.key∧V.rep w I e'.2.2 e.val:=by
     clear h0 h1 hm g1 g4 g5 g6 g7 g9 gi gi' hlen
     generalize arr.toList=l at g2 g3 g8 ⊢
     induction l generalizing es with
     | nil=>intro e he;cases he
     | cons y l ih =>
      cases es with
      | nil=>simp at g2
      | cons z es =>
       simp only [List.map_cons,List.cons.injEq] at g2 g3
       simp only [List.map_cons,V.reps] at g8
       intro e he
       rcases List.mem_cons.1 he with rfl | he
       ·exact⟨z,List.mem_cons_self,g2.1.symm,g3.1.symm,g8.1⟩
       ·obtain⟨e',h1,h2⟩:=ih es g2.2 g3.2 g8.2 e he
        exact⟨e',List.mem_cons_of_mem _ h1,h2⟩
    have back:∀ e' ∈ es,∃ e ∈ arr.toList,e.born=e'.1:=fun e' he'=>by
     have:e'.1 ∈ arr.toList.map (·.born):=g2▸List.mem_map.2 ⟨e',he',rfl⟩
     obtain⟨e,he,hb⟩:=List.mem_map.1 this
     exact⟨e,he,hb⟩
    rcases run_next (P:=C.P) (ty:=o.type) gi' g1 (fun e he=>by obtain⟨e',h1,h2,_⟩:=side e he;rw [← h2];exact g7 e' h1) (Nat.le_refl _) with⟨q1,q2⟩ | ⟨e,he,w1,hw1,q2⟩
    ·refine⟨.tuple #[.bool false],w,_,I,?_,⟨hΓ.1.put o.dst (dstOk_spec hd) (v:=.tup [.lit (.bool false)]) ?_,hΓ.2.put _ _⟩,h0 ?_⟩
     ·simp only [execOp,ho,rx,Sem.run_bind,q2,Result.andThen_ok,Sem.run_pure]
     ·simp only [V.rep];exact⟨_,rfl,by simp [V.reps,V.rep]⟩
     ·unfold leftE
      rw [List.filter_eq_nil_iff]
      intro e' he' hc
      obtain⟨e,he,hb⟩:=back e' he'
      have:e ∈ (leftOf arr seen.toArray).toList:=by
       unfold leftOf
       simp only [Array.toList_filter,List.mem_filter]
       exact⟨he,by simpa [hb] using hc⟩
      rw [q1] at this
      cases this
    ·have he2:e ∈ arr.toList∧seen.contains e.born=false:=by
      unfold leftOf at he
      simp only [Array.toList_filter,List.mem_filter] at he
      exact⟨he.1,by simpa using he.2⟩
     obtain⟨e',he',hb1,hb2,hb3⟩:=side e he2.1
     have hleft:e' ∈ leftE es seen:=by
      unfold leftE
      rw [List.mem_filter]
      exact⟨he',by simp only [hb1,he2.2,Bool.not_false]⟩
     have hΓ1:Γ C S a w1 I:=by
      rcases hw1 with rfl | rfl
      ·exact hΓ
      ·exact⟨hΓ.1.mono (Keeps.drew (fun _=>True) w I).stays,hΓ.2.quiet (fun _=>True) (fun _ _=>trivial) (Keeps.drew _ w I) hΓ.2.heap.inn⟩
     have hst1:Stays w I w1 I:=by
      rcases hw1 with rfl | rfl
      ·exact Stays.refl _ _
      ·exact(Keeps.drew (fun _=>True) w I).stays
     have gi1:w1.heap[ib]? = some (.mapIter (some mb) last seen.toArray last):=by rcases hw1 with rfl | rfl <;> exact gi'
     have hib:ib ∈ S.boxes.map (·.1):=List.mem_map.2 ⟨_,getI_mem hi,rfl⟩
     obtain⟨hW,hS⟩:=hΓ1.2.setX (o':=.mapIter (some mb) last (seen.toArray.push e.born) last) (z:=.it mb last (seen++[e'.1]) last) hib gi1 (fun w' _ h1 _=>⟨by rw [h1,hb1];simp,gi.2⟩)
     refine⟨.tuple #[.bool true,e.key,e.val],_,_,I,?_,⟨(hΓ1.1.mono hS).put o.dst (dstOk_spec hd) (v:=.tup [.lit (.bool true),valV e'.2.1,e'.2.2]) ?_,hW.put _ _⟩,h1 e' hleft (find_ent g6 he')⟩
     ·simp only [execOp,ho,rx,Sem.run_bind,q2,Result.andThen_ok,Sem.run_pure]
     ·simp only [V.rep]
      refine⟨_,rfl,?_⟩
      simp only [V.reps,V.rep]
      exact⟨trivial,hb2▸valV_rep _,V.rep_mono hS _ _ (V.rep_mono hst1 _ _ hb3),trivial⟩
   ·exact h.elim
  ·exact h.elim
 ·exact h.elim
def entryK (S:St) (it:V) (K:V→Prop):Prop :=
 match it with
 | .lit (.pointer (some ⟨ib,0,none⟩))=>match getI S.boxes ib with
  | some (mb,_,seen,last)=>match seen.getLast?, getM S.boxes mb with
   | some stamp,some (_,es,cl)=>match es.find? (fun x=>x.1 == stamp) with
    | some e=>cl=last∧K (.tup [valV e.2.1,e.2.2])
    | none=>False
   | _,_=>False
  | none=>False
 | _=>False
theorem find_side {w:World} {I:Cells} {stamp:Nat}:∀ {l:List MapEntry} {es:List Ent} {e:Ent},l.map (·.born)=es.map (·.1)→l.map (·.key)=es.map (·.2.1)→V.reps w I (es.map (·.2.2)) (l.map (·.val))→es.find? (fun x=>x.1 == stamp)=some e →
  ∃ y,l.find? (fun x=>x.born == stamp)=some y∧e.2.1=y.key∧V.rep w I e.2.2 y.val
 | [],[],_,_,_,_,h=>by simp at h
 | y::l,z::es,e,h1,h2,h3,h=>by
  simp only [List.map_cons,List.cons.injEq] at h1 h2
  simp only [List.map_cons,V.reps] at h3
  rw [List.find?_cons] at h ⊢
  rw [← h1.1] at h
  split at h
  ·cases h;exact⟨y,rfl,h2.1.symm,h3.1⟩
  ·exact find_side h1.2 h2.2 h3.2 h
 | [],_::_,_,h,_,_,_=>by simp at h
 | _::_,[],_,h,_,_,_=>by simp at h
theorem step_entry {C S} {o:Oper} {x:Operand} {K:St→Prop} (ho:o.op=.entry x) (hd:dstOk C.N o=true) (h:entryK S (VL.ev S.σ x) fun v=>K (S.put o.dst v)):Step C S o K:=by
 unfold entryK at h
 split at h
 ·rename_i ib hx
  split at h
  ·rename_i mb since seen last hi
   split at h
   ·rename_i stamp ks es cl hl hm
    split at h
    ·rename_i e he
     obtain⟨rfl,h⟩:=h
     refine Step.of_value fun a w I hΓ=>?_
     have rx:=hΓ.ev x
     rw [hx] at rx
     simp only [V.rep] at rx
     obtain⟨arr,g1,g2,g3,g4,g5,g6,g7,g8,g9⟩:=MapAt.all (hΓ.2.heap.bx _ (getM_mem hm))
     have gi:=hΓ.2.heap.bx _ (getI_mem hi)
     have gi':w.heap[ib]? = some (.mapIter (some mb) since seen.toArray cl):=gi.1
     obtain⟨y,y1,y2,y3⟩:=find_side g2 g3 g8 he
     have hback:seen.toArray.back? = some stamp:=by rw [← hl];simp [Array.back?, List.getLast?_eq_getElem?]
     have y1':arr.find? (fun x=>x.born == stamp)=some y:=by rw [← Array.find?_toList];exact y1
     refine⟨.tuple #[y.key,y.val],w,_,I,?_,⟨hΓ.1.put o.dst (dstOk_spec hd) (v:=.tup [valV e.2.1,e.2.2]) ?_,hΓ.2.put _ _⟩,h⟩
     ·simp only [execOp,ho,rx,Sem.run_bind,Sem.run_pure]
      simp only [Instr.entry,getObj,Sem.run_bind,Sem.run,gi',g1,Result.andThen,hback,bne_self_eq_false,Bool.false_eq_true,if_false,y1']
      rfl
     ·simp only [V.rep]
      exact⟨_,rfl,by simp only [V.reps];exact⟨y2▸valV_rep _,y3,trivial⟩⟩
    ·exact h.elim
   ·exact h.elim
  ·exact h.elim
 ·exact h.elim
end
end Go.VL
