/- Merged out of my text VFn. -/
import Derived.Test.YtopfanlkbepemaaGreatKVR
namespace Go.VL
open Go.RowKit
theorem setX_split {l:Nat} {y z:B}:∀ {l1 l2:List (Nat × B)},l ∉ l1.map (·.1)→setX (l1++(l,y)::l2) l z=l1++(l,z)::l2
 | [],l2,_=>by simp [setX]
 | (b,c)::l1,l2,h=>by
  simp only [List.map_cons,List.mem_cons,not_or] at h
  simp only [List.cons_append,setX]
  rw [if_neg h.1,setX_split h.2]
theorem ΓW.record {C S w I} {l:Nat} {x x':Obj} {l1 l2:List (Nat × B)} (h:ΓW C S w I) (hb:S.boxes=l1++(l,.obj x)::l2) (hx':∀ y,x' ≠ .deferred y) :
  w.heap[l]? = some x∧ΓW C (S.setBoxes (l1++(l,.obj x')::l2)) (w.putObj l x') I∧Stays w I (w.putObj l x') I:=by
 have hmem:(l,B.obj x) ∈ S.boxes:=by rw [hb];simp
 have hbx:=h.heap.bx _ hmem
 have hn:l ∉ l1.map (·.1):=by
  have:=(List.nodup_append.1 h.heap.nodup).1
  rw [hb,List.map_append,List.map_cons] at this
  exact fun hm=>(List.nodup_append.1 this).2.2 l hm l List.mem_cons_self rfl
 have hs:VL.setX S.boxes l (.obj x')=l1++(l,.obj x')::l2:=by rw [hb,setX_split hn]
 have:=h.setX (o':=x') (z:=.obj x') (List.mem_map.2 ⟨_,hmem,rfl⟩) hbx.1 (fun w' _ h1 _=>⟨h1,hx',hbx.2.2⟩)
 rw [hs] at this
 exact⟨hbx.1,this⟩
def litσ (σ:Nat→V):Nat→V:=fun i=>match σ i with | .lit x=>.lit x | _=>.any
structure RecOk (N:Nat) (σ:Nat→V) (r:Loop):Prop where
 ready:r.state=.ready
 none:r.pending=none
 size:r.tmps.size=N
 lits:∀ i x,σ i=.lit x→r.tmps.getD i undef=x
def roundσ (σ:Nat→V) (ps:List Nat) (args:List V):Nat→V:=(ps.zip args).foldl (fun s q=>upd s (some q.1) q.2) (litσ σ)
def roundQ (l:Nat) (r:Loop) (Q:V→List (Nat × B)→List Row→Prop):Exit→St→Prop
 | .normal,S=>∃ l1 l2 bs',S.boxes=l1++(l,.obj (.loop { r with state:=.busy }))::l2∧bs'.Sublist (l1++l2)∧Q (.lit (.bool true)) ((l,.obj (.loop r))::bs') []
 | .ret,S=>∃ l1 l2 bs',S.boxes=l1++(l,.obj (.loop { r with state:=.busy }))::l2∧bs'.Sublist (l1++l2)∧Q (.lit (.bool false)) ((l,.obj (.loop { r with state:=.done,pending:=some .ret }))::bs') []
 | .exit i,S=>∃ l1 l2 bs',S.boxes=l1++(l,.obj (.loop { r with state:=.busy }))::l2∧bs'.Sublist (l1++l2)∧Q (.lit (.bool false)) ((l,.obj (.loop { r with state:=.done,pending:=some (.exit i) }))::bs') []
 | _,_=>False
theorem fold_rep {w:World} {I:Cells}:∀ {ps:List Nat} {args:List V} {xs:List Value} {σ:Nat→V} {tmps:Array Value},(∀ p ∈ ps,p < tmps.size)→V.reps w I args xs→(∀ i,V.rep w I (σ i) (tmps.getD i undef)) →
  ((ps.zip xs).foldl (fun t q=>t.setIfInBounds q.1 q.2) tmps).size=tmps.size∧∀ i,V.rep w I ((ps.zip args).foldl (fun s q=>upd s (some q.1) q.2) σ i) (((ps.zip xs).foldl (fun t q=>t.setIfInBounds q.1 q.2) tmps).getD i undef)
 | [],_,_,_,_,_,_,h=>⟨by simp,by simpa using h⟩
 | p::ps,[],[],_,_,_,_,h=>⟨by simp,by simpa using h⟩
 | p::ps,v::args,x::xs,σ,tmps,hp,hr,h=>by
  simp only [V.reps] at hr
  simp only [List.zip_cons_cons,List.foldl_cons]
  have hsz:(tmps.setIfInBounds p x).size=tmps.size:=by simp
  have:=fold_rep (ps:=ps) (args:=args) (xs:=xs) (σ:=upd σ (some p) v) (tmps:=tmps.setIfInBounds p x) (fun q hq=>by rw [hsz];exact hp q (List.mem_cons_of_mem _ hq)) hr.2 fun i=>by
   by_cases e:p=i
   ·subst e
    have hlt:=hp p List.mem_cons_self
    simp only [upd,if_true,Array.getD_eq_getD_getElem?, Array.getElem?_setIfInBounds_self_of_lt hlt,Option.getD_some]
    exact hr.1
   ·simp only [upd,Option.some.injEq,e,if_false,Array.getD_eq_getD_getElem?, Array.getElem?_setIfInBounds_ne e]
    simpa [Array.getD_eq_getD_getElem?] using h i
  rwa [hsz] at this
 | _::_,[],_::_,_,_,_,hr,_=>by simp [V.reps] at hr
 | _::_,_::_,[],_,_,_,hr,_=>by simp [V.reps] at hr
theorem Heap.front {w I rows} {l:Nat} {z:B} {l1 l2 bs:List (Nat × B)} (h:Heap w I (l1++(l,z)::l2) rows) (hs:bs.Sublist (l1++l2)):Heap w I ((l,z)::bs) [] :=
 (h.perm List.perm_middle).sub (List.Sublist.cons_cons _ hs) (List.nil_sublist _)
theorem OkY.of_round {P:Program} {l N:Nat} {M:List (Nat × Nat)} {σ:Nat→V} {r:Loop} {args:List V} {bs:List (Nat × B)} {Q:V→List (Nat × B)→List Row→Prop} {ps:Array Tmp} {assign body:Code} (hm:P.follows .mixedOrders=true) (hr:RecOk N σ r) (hpa:r.params=ps) (has:r.assign=assign) (hbo:r.body=body)
  (hps:ps.size=args.length) (hpN:∀ p ∈ ps.toList,p < N) (hk1:okCode N M assign=true) (hk2:okCode N M body=true)
  (h:∀ F w0 I0,EX { P:=P,N:=N,F:=F,w0:=w0,I0:=I0,M:=M,r:=some l } [.code assign,.stop fun S=>∃ l1 l2,S.boxes=l1++(l,.obj (.loop r))::l2 ∧
   EX { P:=P,N:=N,F:=F,w0:=w0,I0:=I0,M:=M,r:=some l } [.code body] (S.setBoxes (l1++(l,.obj (.loop { r with state:=.busy }))::l2)) (roundQ l r Q)] ⟨roundσ σ ps.toList args,(l,.obj (.loop r))::bs,[]⟩ (fun _ _=>False)) :
  OkY P l args ((l,.obj (.loop r))::bs) Q:=by
 subst hpa has hbo
 intro w I xs hrep hH
 have hw:w.heap[l]? = some (.loop r):=(hH.bx (l,.obj (.loop r)) List.mem_cons_self).1
 have hxl:=reps_length hrep
 refine⟨r.fn,_,r.assign,r.body,run_yield hw (by simp [hps,hxl]),roundIn_of_wpIn trivial ?_⟩
 let C:Ctx:={ P:=P,N:=N,F:=fun b=>b < w.heap.size∧b ∉ (((l,B.obj (.loop r))::bs).map (·.1)),w0:=w,I0:=I,M:=M,r:=some l }
 have hfold:=fold_rep (w:=w) (I:=I) (ps:=r.params.toList) (args:=args) (xs:=xs) (σ:=litσ σ) (tmps:=r.tmps) (fun p hp=>by rw [hr.size];exact hpN p hp) hrep fun i=>by
  unfold litσ
  split
  ·rename_i x hx
   simp only [V.rep]
   exact hr.lits i x hx
  ·simp only [V.rep]
 have etm:(r.params.zip xs.toArray).foldl (fun tmps (t,a)=>tmps.setIfInBounds t a) r.tmps=(r.params.toList.zip xs).foldl (fun t q=>t.setIfInBounds q.1 q.2) r.tmps:=by
  rw [← Array.foldl_toList,Array.toList_zip]
 rw [etm]
 have hΓ:Γ C ⟨roundσ σ r.params.toList args,(l,.obj (.loop r))::bs,[]⟩ { tmps:=(r.params.toList.zip xs).foldl (fun t q=>t.setIfInBounds q.1 q.2) r.tmps,defers:=[] } w I :=
  ⟨⟨hfold.1.trans hr.size,⟨List.nodup_nil,fun d hd=>by cases hd⟩,hfold.2⟩,⟨hH,fun b hb hF=>hF.2 (by simpa [blks] using hb),Keeps.refl _ _ _,fun b hb=>hb.1⟩⟩
 refine wpIn_mono (cwp_spec (C:=C) hm r.assign _ _ hk1 (h _ _ _) _ w I hΓ) fun e a1 w1 ⟨S1,I1,hΓ1,hq⟩=>?_
 cases e with
 | normal =>
  obtain⟨l1,l2,hb,hbody⟩:=hq
  obtain⟨hw1,hW,hst⟩:=hΓ1.2.record hb (x':=.loop { r with state:=.busy }) (fun y e=>by cases e)
  refine⟨_,run_beginRound hw1 hr.ready,?_⟩
  refine wpIn_mono (cwp_spec (C:=C) hm r.body _ _ hk2 hbody a1 _ I1 ⟨hΓ1.1.mono hst,hW⟩) fun e2 a2 w2 ⟨S2,I2,hΓ2,hq2⟩=>?_
  have fin:∀ (j:Option Code) (r':Loop) (l1 l2 bs':List (Nat × B)),S2.boxes=l1++(l,.obj (.loop { r with state:=.busy }))::l2→bs'.Sublist (l1++l2)→Q (.lit (.bool j.isNone)) ((l,.obj (.loop r'))::bs') [] →
    ({ ({ r with state:=.busy }:Loop) with state:=if j.isNone then .ready else .done,pending:=j }:Loop)=r' →
    ∃ v w',(Instr.endRound l j).run P w2=.ok v w'∧∃ x v' bs'' rs' I',Ending.returned v=.returned x∧V.rep w' I' v' x∧Keeps C.F w I w' I'∧Heap w' I' bs'' rs'∧(∀ b ∈ blks bs'' rs',¬ C.F b)∧Q v' bs'' rs':=by
   intro j r' l1 l2 bs' hb2 hsub hQ hre
   obtain⟨hw2,hW2,_⟩:=hΓ2.2.record hb2 (x':=.loop r') (fun y e=>by cases e)
   have hrun:=run_endRound (P:=P) j hw2
   rw [hre] at hrun
   refine⟨_,_,hrun,_,.lit (.bool j.isNone),(l,.obj (.loop r'))::bs',[],I2,rfl,by simp [V.rep],hW2.keeps,hW2.heap.front hsub,fun b hb3=>hW2.mine b ?_,hQ⟩
   simp only [blks,List.map_cons,List.filterMap_nil,List.append_nil,List.mem_cons,St.setBoxes,List.map_append,List.mem_append] at hb3 ⊢
   rcases hb3 with rfl | hb3
   ·exact .inl (.inr (.inl rfl))
   ·have:=(hsub.map (·.1)).subset hb3
    rw [List.map_append,List.mem_append] at this
    exact .inl (this.imp id .inr)
  cases e2 with
  | normal =>
   obtain⟨l1,l2,bs',hb2,hsub,hQ⟩:=hq2
   exact fin none r l1 l2 bs' hb2 hsub hQ (by
    have h1:=hr.ready
    have h2:=hr.none
    cases r
    simp only at h1 h2
    subst h1;subst h2
    rfl)
  | ret =>
   obtain⟨l1,l2,bs',hb2,hsub,hQ⟩:=hq2
   exact fin (some .ret) _ l1 l2 bs' hb2 hsub hQ rfl
  | exit i =>
   obtain⟨l1,l2,bs',hb2,hsub,hQ⟩:=hq2
   exact fin (some (.exit i)) _ l1 l2 bs' hb2 hsub hQ rfl
  | goto t=>exact hq2.elim
  | panic c=>exact hq2.elim
  | outgrown=>exact hq2.elim
 | ret=>exact hq.elim
 | exit i=>exact hq.elim
 | goto t=>exact hq.elim
 | panic c=>exact hq.elim
 | outgrown=>exact hq.elim
theorem ΓW.addObj {C S w I} (h:ΓW C S w I) (o:Obj) (ho:∀ y,o ≠ .deferred y):ΓW C (S.addB w.heap.size (.obj o)) (w.alloc o) I∧Stays w I (w.alloc o) I:=by
 have hA:=h.alloc o
 have hst:Stays w I (w.alloc o) I:=(Keeps.new o h.heap.inn).stays
 refine⟨⟨⟨fun p hp=>?_,hA.heap.rw,?_,hA.heap.inn,hA.heap.glob⟩,fun b hb=>?_,hA.keeps,hA.lo⟩,hst⟩
 ·rcases List.mem_cons.1 hp with rfl | hp
  ·exact⟨heap_new w _,ho,fun i hi=>by have:=h.heap.inn _ _ hi;simp at this⟩
  ·exact hA.heap.bx p hp
 ·simp only [blks,St.addB,List.map_cons,List.cons_append,List.nodup_cons]
  exact⟨h.fresh,h.heap.nodup⟩
 ·simp only [blks,St.addB,List.map_cons,List.cons_append,List.mem_cons] at hb
  rcases hb with rfl | hb
  ·exact h.notF
  ·exact h.mine b hb
theorem EX_rangeFunc {C:Ctx} {k:List It} {S:St} {Q:Exit→St→Prop} {g:Operand} {ps:Array Tmp} {assign body:Code} (hr:C.r=none) {gf:FuncId} {first cap:Array Value} (hg:ev S.σ g=.lit (.func (.func gf) first cap)) (hB:callB C.P gf=true)
  (bs lf:List (Nat × B)) (hp:S.boxes.Perm (bs++lf)) (Q1:Nat→Loop→V→List (Nat × B)→List Row→Prop)
  (it:∀ (l:Nat) (r:Loop),l ∉ blks S.boxes S.rows→RecOk C.N S.σ r→r.params=ps→r.assign=assign→r.body=body →
   Ok C.P gf (first.toList.map .lit++[.lit (.func (.yield l) #[] #[])]++cap.toList.map .lit) ((l,.obj (.loop r))::bs) (Q1 l r))
  (hk:∀ (l:Nat) (r:Loop) v bs' rs,RecOk C.N S.σ r→Q1 l r v bs' rs→∃ bs'',bs'=(l,.obj (.loop r))::bs''∧(((bs''++lf).map (·.1)).Nodup→EX C k ((S.setBoxes (bs''++lf)).setRows (rs++S.rows)) Q)) :
  AWP C (.rangeFunc g ps assign body) S (contQ C k Q):=by
 intro a w I hΓ
 have hfe:C.fe=Fence.wide:=by unfold Ctx.fe;rw [hr]
 refine wpIn_rangeFunc fun fn _=>?_
 have rf:=hΓ.ev g
 rw [hg] at rf
 simp only [V.rep] at rf
 let r:Loop:={ state:=.ready,pending:=none,fn,tmps:=a.tmps,params:=ps,assign,body,defers:=w.heap.size }
 have hrec:RecOk C.N S.σ r:=⟨rfl,rfl,hΓ.1.size,fun i x hx=>by
  have:=hΓ.1.tmps i
  rw [hx] at this
  simpa only [V.rep] using this⟩
 have hW1:=hΓ.2.alloc (.deferred (some []))
 have hS1:Stays w I (w.alloc (.deferred (some []))) I:=(Keeps.new _ hΓ.2.heap.inn).stays
 obtain⟨hW2,hS2⟩:=hW1.addObj (.loop r) (fun y e=>by cases e)
 have hsz:(w.alloc (.deferred (some []))).heap.size=w.heap.size+1:=by simp
 rw [hsz] at hW2
 have hfresh:w.heap.size+1 ∉ blks S.boxes S.rows:=by have:=hW1.fresh;rwa [hsz] at this
 have hres:(resolve a.eval (rangeCall g (w.heap.size+1)) 0).run C.P ((w.alloc (.deferred (some []))).alloc (.loop r))=.ok { target:=.fn (.func gf) cap,args:=first++#[.func (.yield (w.heap.size+1)) #[] #[]] } ((w.alloc (.deferred (some []))).alloc (.loop r)):=by
  simp only [resolve,rf,Deferred.ofValue,Sem.run_pure,List.map_toArray,List.map_cons,List.map_nil]
  rfl
 have hent:(Instr.enterLoop fn a.tmps ps assign body C.fe.round).run C.P w=.ok (w.heap.size+1,[{ target:=.collected w.heap.size,args:=#[] }]) ((w.alloc (.deferred (some []))).alloc (.loop r)):=by
  rw [C.fe_round,hr]
  exact run_enterLoop_outer fn a.tmps ps assign body
 refine⟨w.heap.size+1,_,_,_,_,gf,first++#[.func (.yield (w.heap.size+1)) #[] #[]]++cap,(w.alloc (.deferred (some []))).alloc (.loop r),hent,hres,fun f' _=>C.fe_fn f',?_,fun hd=>absurd hd (by rw [C.fe_depth];decide),?_⟩
 ·simp only [invoke]
  exact run_callFunc hB
 have hD:(w.alloc (.deferred (some []))).heap[w.heap.size]? = some (.deferred (some [])):=heap_new w _
 have happ:=(it (w.heap.size+1) r hfresh hrec rfl rfl rfl).apply (C:=C) (lf:=lf) hW2 (List.Perm.cons _ hp) (xs:=first.toList++[.func (.yield (w.heap.size+1)) #[] #[]]++cap.toList)
  (reps_append (reps_append (reps_lits first.toList) (by simp [V.reps,V.rep])) (reps_lits cap.toList))
 have e:(first.toList++[Value.func (.yield (w.heap.size+1)) #[] #[]]++cap.toList).toArray=first++#[.func (.yield (w.heap.size+1)) #[] #[]]++cap:=by
  apply Array.ext'
  simp
 rw [e] at happ
 refine callsIn_of (happ.mono fun en w' hx=>?_)
 obtain⟨x,v,bs',rs',I',he,hv,hs,hW',hQ⟩:=hx
 subst he
 obtain⟨bs'',rfl,hk⟩:=hk _ r v bs' rs' hrec hQ
 obtain⟨hw',hW4,hS4⟩:=hW'.record (l1:=[]) (l2:=bs''++lf) (x:=.loop r) (x':=.loop { r with state:=.exhausted }) rfl (fun y e=>by cases e)
 refine⟨_,_,run_endLoop hw' (by simp [r]),?_⟩
 have hall:Stays w I (w'.putObj (w.heap.size+1) (.loop { r with state:=.exhausted })) I':=((hS1.trans hS2).trans hs).trans hS4
 have hDl:(w'.putObj (w.heap.size+1) (.loop { r with state:=.exhausted })).heap[w.heap.size]? = some (.deferred (some [])):=hS4.2 _ _ (hs.2 _ _ (hS2.2 _ _ hD))
 have hΓ4:Γ C ((S.setBoxes (bs''++lf)).setRows (rs'++S.rows)) { a with defers:=[{ target:=.collected w.heap.size,args:=#[] }]++a.defers } (w'.putObj (w.heap.size+1) (.loop { r with state:=.exhausted })) I':=by
  refine⟨⟨hΓ.1.size,⟨?_,fun d hd=>?_⟩,fun i=>V.rep_mono hall _ _ (hΓ.1.tmps i)⟩,?_⟩
  ·simp only [List.singleton_append,List.nodup_cons]
   refine⟨fun hm=>?_,hΓ.1.defers.1⟩
   obtain⟨D,h1,h2,h3⟩:=hΓ.1.defers.2 _ hm
   have:w.heap.size=D:=by injection h1 with h1 _;injection h1
   have:=(Array.getElem?_eq_some_iff.1 h3).1
   omega
  ·simp only [List.singleton_append,List.mem_cons] at hd
   rcases hd with rfl | hd
   ·exact⟨_,rfl,hΓ.2.keeps.size,hDl⟩
   ·obtain⟨D,h1,h2,h3⟩:=hΓ.1.defers.2 d hd
    exact⟨D,h1,h2,hall.2 _ _ h3⟩
  ·have h4:=hW4.heap
   have hsub:(bs''++lf).Sublist ((w.heap.size+1,B.obj (.loop { r with state:=.exhausted }))::(bs''++lf)):=List.sublist_cons_self _ _
   exact⟨h4.sub hsub (List.Sublist.refl _),fun b hb=>hW4.mine b ((List.Sublist.append (hsub.map _) (List.Sublist.refl _)).subset hb),hW4.keeps,hW4.lo⟩
 exact⟨_,I',hΓ4,hk (List.nodup_append.1 hΓ4.2.heap.nodup).1⟩
end Go.VL
