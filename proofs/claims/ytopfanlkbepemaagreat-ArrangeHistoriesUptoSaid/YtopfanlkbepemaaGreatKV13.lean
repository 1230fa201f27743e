/- Merged out of my text V13. -/
import Derived.Test.YtopfanlkbepemaaGreatKVMe
import Derived.Test.YtopfanlkbepemaaGreatKVO
import Derived.Test.YtopfanlkbepemaaGreatKVP
namespace Go.VL
open Go.RowKit
def And2 (A B:Prop):Prop:=A∧B
def AllV (K:Value→Prop):Prop:=∀ y,K y
def appD (S:St) (d:Option Nat) (k by_:Nat) (e:TypeId) (sv:V) (fs:List (List V)) (K:St→Prop):Prop :=
 match sv with
 | .lit (.slice none 0 0)=>And2 (fs.length * by_≤140737488355328) (AllV fun y=>K ((S.addRow ⟨y,k,e⟩).put d (.list (some y) k fs)))
 | .list (some y) k' es=>And2 (k'=k) (takeR S.rows y fun r rs=>And2 (r.k=k∧r.e=e∧(es.length+fs.length) * by_≤140737488355328) (AllV fun y'=>K ((S.setRows (⟨y',k,e⟩::rs)).put d (.list (some y') k (es++fs)))))
 | _=>False
def appendK (P:Program) (S:St) (d:Option Nat) (t:TypeId) (sv xv:V) (K:St→Prop):Prop :=
 match P.underlying t with
 | some (.slice e)=>match tsz P e,tby P e,tzr P e with
  | some k,some by_,some z=>(0 < k∧0 < by_∧z.length=k)∧onL xv k fun fs=>appD S d k by_ e sv fs K
  | _,_,_=>False
 | _=>False
theorem srcOk_list {C:Ctx} {S:St} {t e:TypeId} {k:Nat} {x:V} {fs:List (List V)} (hu:C.P.underlying t=some (.slice e)) (hfs:∀ w I xv,V.rep w I x xv→∃ a c,xv=.slice a fs.length c∧fs.length≤c∧(fs=[]∨∃ b o,a=some ⟨b,o,none⟩∧V.lies w I k fs b o)) :
  ∀ w I xv,ΓW C S w I→V.rep w I x xv→(∀ e' ∈ fs,e'.length=k)∧∃ news,V.reps w I fs.flatten news∧(∀ u ∈ news,one u)∧Src C.P k t xv fs.length news w:=fun w I xv _ hr=>by
 obtain⟨a,c,rfl,hlec,hxl⟩:=hfs w I xv hr
 by_cases h0:fs=[]
 ·subst h0
  refine⟨by simp,[],by simp [V.reps],by simp,?_⟩
  cases a with
  | none=>exact Src.ofNil (P:=C.P) w hu c
  | some a=>exact Src.ofSlice (P:=C.P) w hu a 0 c [] (by simp) (by simp) (by simp)
 ·obtain⟨b,o,rfl,hlf⟩:=hxl.resolve_left h0
  obtain⟨hfk,news,hn1,hn2,hn3⟩:=lies_vals hlf
  exact⟨hfk,news,hn1,hn2,Src.ofSlice (P:=C.P) w hu ⟨b,o,none⟩ fs.length c news (by rw [reps_length hn1,flatten_len hfk]) (fun j u hj=>by rw [Addr.add_lit];exact(hn3 j u hj).1) (fun u hu=>one_cell' (hn2 u hu))⟩
def strE (s:ByteArray):List (List V):=(bytesV s).map fun v=>[v]
theorem strE_flat (s:ByteArray):(strE s).flatten=bytesV s:=by
 unfold strE
 induction bytesV s with
 | nil=>rfl
 | cons v r ih=>simp [ih]
theorem strE_len (s:ByteArray):(strE s).length=s.size:=by simp [strE,bytesV]
theorem srcOk_str {C:Ctx} {S:St} {t:TypeId} {s:ByteArray} (hu:C.P.underlying t=some .string) :
  ∀ w I xv,ΓW C S w I→V.rep w I (.lit (.string s)) xv→(∀ e' ∈ strE s,e'.length=1)∧∃ news,V.reps w I (strE s).flatten news∧(∀ u ∈ news,one u)∧Src C.P 1 t xv (strE s).length news w:=fun w I xv _ hr=>by
 simp only [V.rep] at hr
 subst hr
 refine⟨fun e he=>?_,byteCells s,by rw [strE_flat];exact reps_bytes s,fun u hu=>?_,by rw [strE_len];exact Src.ofString (P:=C.P) w hu s⟩
 ·obtain⟨v,_,rfl⟩:=List.mem_map.1 he;rfl
 ·obtain⟨_,_,rfl⟩:=List.mem_map.1 hu;exact trivial
theorem step_appD {C S} {o:Oper} {c:Call} {s x:Operand} {t tx e:TypeId} {k by_:Nat} {z:List Value} {fs:List (List V)} {K:St→Prop} (ho:o.op=.call c) (hc:c.callee=.builtin .append) (ha:c.args.toList=[s,x]) (hty:c.argTypes.toList=[t,tx]) (hd:dstOk C.N o=true)
  (hu:C.P.underlying t=some (.slice e)) (hk:tsz C.P e=some k) (hby:tby C.P e=some by_) (hz:tzr C.P e=some z) (h0:0 < k) (hb0:0 < by_) (hzl:z.length=k)
  (src:∀ w I xv,ΓW C S w I→V.rep w I (VL.ev S.σ x) xv→(∀ e' ∈ fs,e'.length=k)∧∃ news,V.reps w I fs.flatten news∧(∀ u ∈ news,one u)∧Src C.P k tx xv fs.length news w)
  (h:appD S o.dst k by_ e (VL.ev S.σ s) fs K):Step C S o K:=by
 have ha':c.args=#[s,x]:=by rw [← Array.toArray_toList (xs:=c.args),ha]
 have ht':c.argTypes=#[t,tx]:=by rw [← Array.toArray_toList (xs:=c.argTypes),hty]
 have run:∀ (a:Act) (w w':World) (y:Value),(Builtin.append_ #[t,tx] o.type #[a.eval s,a.eval x]).run C.P w=.ok y w'→(execOp a.eval o).run C.P w=.ok (.value y) w':=fun a w w' y hr=>by
  simp only [execOp,ho,resolve,hc,ha',ht',invoke,builtin]
  simp only [Sem.run_bind,Sem.run_pure,Result.andThen_ok,List.map_toArray,List.map_cons,List.map_nil,hr]
 unfold appD at h
 split at h
 ·rename_i hs
  obtain⟨hbd,hK⟩:=h
  refine Step.of_value fun a w I hΓ=>?_
  obtain⟨hfk,news,n1,n2,hsrc⟩:=src w I _ hΓ.2 (hΓ.ev x)
  have rs:=hΓ.ev s
  rw [hs] at rs
  simp only [V.rep] at rs
  have W:=hΓ.2.addNil k h0 e
  obtain⟨y',w',I',g1,g2,g3,g4⟩:=append_coreS (ty:=o.type) W hu hk hby hz hb0 hzl (r:=⟨.slice none 0 0,k,e⟩) (rs:=S.rows) rfl rfl rfl (es:=[]) (by
   simp only [V.rep]
   exact⟨fun y hy=>(Option.some.inj hy),none,0,rfl,Nat.le_refl _,.inl trivial⟩) hfk n1 n2 hsrc (by simpa using hbd)
  refine⟨y',w',_,I',run a w w' y' (by rw [rs];exact g1),⟨(hΓ.1.mono g3).put o.dst (dstOk_spec hd) g4,ΓW.put (S:=S.addRow ⟨y',k,e⟩) g2 _ _⟩,hK y'⟩
 ·rename_i y k' es hs
  obtain⟨rfl,h⟩:=h
  obtain⟨r,rs,⟨⟨hrk,hre,hbd⟩,hK⟩,hry,hp⟩:=takeR_spec h
  refine Step.of_value fun a w I hΓ=>?_
  obtain⟨hfk,news,n1,n2,hsrc⟩:=src w I _ hΓ.2 (hΓ.ev x)
  have rsv:=hΓ.ev s
  rw [hs] at rsv
  have hyx:a.eval s=y:=by
   have:=rsv
   simp only [V.rep] at this
   exact this.1 y rfl
  rw [hyx] at rsv
  have W:=hΓ.2.perm hp
  obtain⟨y',w',I',g1,g2,g3,g4⟩:=append_coreS (ty:=o.type) W hu hk hby hz hb0 hzl (r:=r) (rs:=rs) rfl hrk hre (es:=es) (by rw [hry];exact rsv) hfk n1 n2 hsrc hbd
  refine⟨y',w',_,I',run a w w' y' (by rw [hyx,← hry];exact g1),⟨(hΓ.1.mono g3).put o.dst (dstOk_spec hd) g4,ΓW.put (S:=({ S with rows:=⟨y',k',e⟩::rs }:St)) g2 _ _⟩,hK y'⟩
 ·exact h.elim
theorem step_append {C S} {o:Oper} {c:Call} {s x:Operand} {t:TypeId} {K:St→Prop} (ho:o.op=.call c) (hc:c.callee=.builtin .append) (ha:c.args.toList=[s,x]) (hty:c.argTypes.toList=[t,t]) (hd:dstOk C.N o=true)
  (h:appendK C.P S o.dst t (VL.ev S.σ s) (VL.ev S.σ x) K):Step C S o K:=by
 unfold appendK at h
 split at h
 ·rename_i e hu
  split at h
  ·rename_i k by_ z hk hby hz
   obtain⟨⟨h0,hb0,hzl⟩,h⟩:=h
   obtain⟨fs,h,hfs⟩:=onL_spec h
   exact step_appD ho hc ha hty hd hu hk hby hz h0 hb0 hzl (srcOk_list hu hfs) h
  ·exact h.elim
 ·exact h.elim
def appSK (P:Program) (S:St) (d:Option Nat) (t tx:TypeId) (sv:V) (b:ByteArray) (K:St→Prop):Prop :=
 match P.underlying t with
 | some (.slice e)=>match tsz P e,tby P e,tzr P e with
  | some k,some by_,some z=>(P.underlying tx=some .string∧k=1∧0 < by_∧z.length=k)∧appD S d k by_ e sv (strE b) K
  | _,_,_=>False
 | _=>False
theorem step_appS {C S} {o:Oper} {c:Call} {s x:Operand} {t tx:TypeId} {b:ByteArray} {K:St→Prop} (ho:o.op=.call c) (hc:c.callee=.builtin .append) (ha:c.args.toList=[s,x]) (hty:c.argTypes.toList=[t,tx]) (hd:dstOk C.N o=true) (hx:VL.ev S.σ x=.lit (.string b))
  (h:appSK C.P S o.dst t tx (VL.ev S.σ s) b K):Step C S o K:=by
 unfold appSK at h
 split at h
 ·rename_i e hu
  split at h
  ·rename_i k by_ z hk hby hz
   obtain⟨⟨htx,rfl,hb0,hzl⟩,h⟩:=h
   exact step_appD ho hc ha hty hd hu hk hby hz (by decide) hb0 hzl (by rw [hx];exact srcOk_str htx) h
  ·exact h.elim
 ·exact h.elim
def YieldC (P:Program) (l:Nat) (xs:Array Value) (w:World) (R:Ending→World→Prop):Prop :=
 ∃ fn tmps assign body,(Instr.yield l xs).run P w=.ok (.round l fn tmps assign body) w∧RoundIn Fence.wide 0 P l fn tmps assign body w R
theorem YieldC.mono {P:Program} {l:Nat} {xs:Array Value} {w:World} {R R':Ending→World→Prop} (h:YieldC P l xs w R) (hr:∀ e w',R e w'→R' e w'):YieldC P l xs w R':=by
 obtain⟨fn,tmps,assign,body,hy,hR⟩:=h
 exact⟨fn,tmps,assign,body,hy,hR.mono hr⟩
def OkY (P:Program) (l:Nat) (args:List V) (bs:List (Nat × B)) (Q:V→List (Nat × B)→List Row→Prop):Prop :=
 ∀ w I xs,V.reps w I args xs→Heap w I bs [] →
  YieldC P l xs.toArray w fun e w'=>∃ x v bs' rs' I',e=.returned x∧V.rep w' I' v x∧Keeps (fun b=>b < w.heap.size∧b ∉ bs.map (·.1)) w I w' I' ∧
   Heap w' I' bs' rs'∧(∀ b ∈ blks bs' rs',¬ (b < w.heap.size∧b ∉ bs.map (·.1)))∧Q v bs' rs'
def ExtV (P:Program) (S:St) (g:FuncId) (zs:List V) (v:V):Prop :=
 ∀ w I xs,Heap w I S.boxes S.rows→V.reps w I zs xs→∃ x w',(callFunc g xs.toArray).run P w=.ok (.value x) w'∧(w'=w∨w'=w.drew)∧V.rep w' I v x
def callE (P:Program) (S:St) (d:Option Nat) (f:V) (args:List V) (K:St→Prop):Prop :=
 match f with
 | .lit (.func (.func g) first cap)=>match callB P g with
  | true=>∃ bs lf,S.boxes.Perm (bs++lf)∧Ok P g (first.toList.map .lit++args++cap.toList.map .lit) bs
   fun v bs' rs=>((bs'++lf).map (·.1)).Nodup→K (({ S with boxes:=bs'++lf,rows:=rs++S.rows }:St).put d v)
  | false=>∃ v,ExtV P S g (first.toList.map .lit++args++cap.toList.map .lit) v∧K (S.put d v)
 | .lit (.func (.yield l) first _)=>∃ bs lf,S.boxes.Perm (bs++lf)∧OkY P l (first.toList.map .lit++args) bs
   fun v bs' rs=>((bs'++lf).map (·.1)).Nodup→K (({ S with boxes:=bs'++lf,rows:=rs++S.rows }:St).put d v)
 | _=>False
theorem Heap.perm {w I bs bs' rows} (h:Heap w I bs rows) (hp:bs.Perm bs'):Heap w I bs' rows :=
 ⟨fun p hp'=>h.bx p (hp.mem_iff.2 hp'),h.rw,(List.Perm.append_right _ (hp.map _)).nodup_iff.1 h.nodup,h.inn,h.glob⟩
theorem Heap.some {w I bs lf rows} (hH:Heap w I (bs++lf) rows):Heap w I bs []:=by
 have hbl:(bs.map (·.1)).Nodup:=by
  have h1:=(List.nodup_append.1 hH.nodup).1
  rw [List.map_append] at h1
  exact(List.nodup_append.1 h1).1
 exact⟨fun p hp'=>hH.bx p (List.mem_append.2 (.inl hp')),by simp,by simpa [blks] using hbl,hH.inn,hH.glob⟩
theorem Ok.post {C S w I} {bs lf:List (Nat × B)} {Q:V→List (Nat × B)→List Row→Prop} {e:Ending} {w':World} (hW:ΓW C S w I) (hp:S.boxes.Perm (bs++lf))
  (h:∃ x v bs' rs' I',e=.returned x∧V.rep w' I' v x∧Keeps (fun b=>b < w.heap.size∧b ∉ bs.map (·.1)) w I w' I'∧Heap w' I' bs' rs'∧(∀ b ∈ blks bs' rs',¬ (b < w.heap.size∧b ∉ bs.map (·.1)))∧Q v bs' rs') :
  ∃ x v bs' rs' I',e=.returned x∧V.rep w' I' v x∧Stays w I w' I'∧ΓW C { S with boxes:=bs'++lf,rows:=rs'++S.rows } w' I'∧Q v bs' rs':=by
 have hH:=hW.heap.perm hp
 obtain⟨x,v,bs',rs',I',he,hv,hk,hh,hn,hQ⟩:=h
 refine⟨x,v,bs',rs',I',he,hv,hk.stays,?_,hQ⟩
 have far:∀ b ∈ blks lf S.rows,b < w.heap.size∧b ∉ bs.map (·.1):=fun b hb=>by
  have hnd:=hH.nodup
  simp only [blks,List.map_append,List.append_assoc] at hnd
  have:=List.nodup_append.1 hnd
  refine⟨hH.lt b ?_,fun hm=>this.2.2 b hm b (by simpa [blks] using hb) rfl⟩
  simp only [blks,List.map_append,List.append_assoc]
  exact List.mem_append.2 (.inr (by simpa [blks] using hb))
 have Hl:Heap w I lf S.rows:=by
  refine⟨fun p hp'=>hH.bx p (List.mem_append.2 (.inr hp')),hH.rw,?_,hH.inn,hH.glob⟩
  have hnd:=hH.nodup
  simp only [blks,List.map_append,List.append_assoc] at hnd
  exact(List.nodup_append.1 hnd).2.1
 have Hl':=Hl.step hk.stays (fun b hb=>hk.block b (far b hb)) (fun b hb o=>hk.old b o (far b hb)) hh.inn
 have hperm:(blks (bs'++lf) (rs'++S.rows)).Perm (blks bs' rs'++blks lf S.rows):=by
  simp only [blks,List.map_append,List.filterMap_append,List.append_assoc]
  refine List.Perm.append_left _ ?_
  rw [← List.append_assoc,← List.append_assoc]
  exact List.Perm.append_right _ List.perm_append_comm
 refine⟨⟨fun p hp'=>?_,fun r hr'=>?_,?_,hh.inn,hh.glob⟩,fun b hb hF=>?_,?_,hW.lo⟩
 ·rcases List.mem_append.1 hp' with h1 | h1
  ·exact hh.bx p h1
  ·exact Hl'.bx p h1
 ·rcases List.mem_append.1 hr' with h1 | h1
  ·exact hh.rw r h1
  ·exact Hl'.rw r h1
 ·exact hperm.nodup_iff.2 (List.nodup_append.2 ⟨hh.nodup,Hl'.nodup,fun b hb c hc e=>hn b hb (e▸far c hc)⟩)
 ·have hm:b < w.heap.size∧b ∉ bs.map (·.1):=by
   refine⟨Nat.lt_of_lt_of_le (hW.lo b hF) hW.keeps.size,fun hm=>?_⟩
   refine hW.mine b ?_ hF
   refine List.mem_append.2 (.inl ?_)
   obtain⟨p,hp',rfl⟩:=List.mem_map.1 hm
   exact List.mem_map.2 ⟨p,hp.mem_iff.2 (List.mem_append.2 (.inl hp')),rfl⟩
  rcases List.mem_append.1 (hperm.mem_iff.1 hb) with hb | hb
  ·exact hn b hb hm
  ·refine hW.mine b ?_ hF
   simp only [blks,List.mem_append] at hb ⊢
   refine hb.imp (fun h1=>?_) id
   obtain⟨p,hp',rfl⟩:=List.mem_map.1 h1
   exact List.mem_map.2 ⟨p,hp.mem_iff.2 (List.mem_append.2 (.inr hp')),rfl⟩
 ·refine hW.keeps.trans (hk.mono fun b hF=>⟨Nat.lt_of_lt_of_le (hW.lo b hF) hW.keeps.size,fun hm=>?_⟩)
  refine hW.mine b (List.mem_append.2 (.inl ?_)) hF
  obtain⟨p,hp',rfl⟩:=List.mem_map.1 hm
  exact List.mem_map.2 ⟨p,hp.mem_iff.2 (List.mem_append.2 (.inl hp')),rfl⟩
theorem Ok.apply {C S w I} {g:FuncId} {args:List V} {xs:List Value} {bs lf:List (Nat × B)} {Q:V→List (Nat × B)→List Row→Prop} (h:Ok C.P g args bs Q) (hW:ΓW C S w I) (hp:S.boxes.Perm (bs++lf)) (hr:V.reps w I args xs) :
  Calls C.P g xs.toArray w fun e w'=>∃ x v bs' rs' I',e=.returned x∧V.rep w' I' v x∧Stays w I w' I'∧ΓW C { S with boxes:=bs'++lf,rows:=rs'++S.rows } w' I'∧Q v bs' rs' :=
 (h w I xs hr (hW.heap.perm hp).some).mono fun _ _ hx=>Ok.post hW hp hx
theorem OkY.apply {C S w I} {l:Nat} {args:List V} {xs:List Value} {bs lf:List (Nat × B)} {Q:V→List (Nat × B)→List Row→Prop} (h:OkY C.P l args bs Q) (hW:ΓW C S w I) (hp:S.boxes.Perm (bs++lf)) (hr:V.reps w I args xs) :
  YieldC C.P l xs.toArray w fun e w'=>∃ x v bs' rs' I',e=.returned x∧V.rep w' I' v x∧Stays w I w' I'∧ΓW C { S with boxes:=bs'++lf,rows:=rs'++S.rows } w' I'∧Q v bs' rs' :=
 (h w I xs hr (hW.heap.perm hp).some).mono fun _ _ hx=>Ok.post hW hp hx
theorem roundIn_of {C:Ctx} {n l:Nat} {f:FuncId} {tmps:Array Value} {assign body:Code} {w:World} {R:Ending→World→Prop} (h:RoundIn Fence.wide n C.P l f tmps assign body w R):RoundIn C.fe n C.P l f tmps assign body w R:=by
 unfold Ctx.fe
 split
 ·exact h
 ·exact h
theorem step_call {C S} {o:Oper} {c:Call} {f:Operand} {K:St→Prop} (ho:o.op=.call c) (hc:c.callee=.value f) (hd:dstOk C.N o=true) (h:callE C.P S o.dst (VL.ev S.σ f) (c.args.toList.map (VL.ev S.σ)) K):Step C S o K:=by
 unfold callE at h
 split at h
 ·rename_i g first cap hf
  intro a w I hΓ Q
  have rf:=hΓ.ev f
  rw [hf] at rf
  simp only [V.rep] at rf
  split at h
  case h_2 =>
   obtain⟨v,hv,hK⟩:=h
   have hr:=reps_append (reps_append (reps_lits (w:=w) (I:=I) first.toList) (hΓ.evs c.args.toList)) (reps_lits cap.toList)
   obtain⟨x,w',hx,hw,hrep⟩:=hv w I _ hΓ.2.heap hr
   have e:(first.toList++c.args.toList.map a.eval++cap.toList).toArray=first++c.args.map a.eval++cap:=by
    apply Array.ext'
    simp
   rw [e] at hx
   have hrun:(execOp a.eval o).run C.P w=.ok (.value x) w':=by
    simp only [execOp,ho,resolve,hc,rf,Deferred.ofValue]
    simp only [Sem.run_bind,Sem.run_pure,Result.andThen_ok,invoke,hx]
   have hΓ':Γ C S a w' I:=by
    rcases hw with rfl | rfl
    ·exact hΓ
    ·exact⟨hΓ.1.mono (Keeps.drew (fun _=>True) w I).stays,hΓ.2.quiet (fun _=>True) (fun _ _=>trivial) (Keeps.drew _ w I) hΓ.2.heap.inn⟩
   unfold Oper.wpIn
   refine⟨fun f _=>C.fe_fn f,?_⟩
   rw [semAt_ok hrun (fun d e=>by cases e)]
   exact⟨_,I,⟨hΓ'.1.put o.dst (dstOk_spec hd) hrep,hΓ'.2.put _ _⟩,hK⟩
  rename_i hB
  obtain⟨bs,lf,hp,h⟩:=h
  have hrun:(execOp a.eval o).run C.P w=.ok (.enter g (first++c.args.map a.eval++cap)) w:=by
   simp only [execOp,ho]
   exact run_value hc rf hB
  have hr:=reps_append (reps_append (reps_lits (w:=w) (I:=I) first.toList) (hΓ.evs c.args.toList)) (reps_lits cap.toList)
  have e:(first.toList++c.args.toList.map a.eval++cap.toList).toArray=first++c.args.map a.eval++cap:=by
   apply Array.ext'
   simp
  have H:=h.apply hΓ.2 hp hr
  rw [e] at H
  unfold Oper.wpIn
  refine⟨fun f _=>C.fe_fn f,?_⟩
  rw [semAt_ok hrun (fun d e=>by cases e)]
  simp only [Oper.uponIn]
  refine⟨fun hd=>absurd hd (by rw [C.fe_depth];decide),callsIn_of (H.mono fun en w' hx=>?_)⟩
  obtain⟨x,v,bs',rs',I',he,hv,hs,hW',hK⟩:=hx
  subst he
  exact⟨_,I',⟨(hΓ.1.mono hs).put o.dst (dstOk_spec hd) hv,hW'.put _ _⟩,hK (List.nodup_append.1 hW'.heap.nodup).1⟩
 ·rename_i l first cap hf
  intro a w I hΓ Q
  have rf:=hΓ.ev f
  rw [hf] at rf
  simp only [V.rep] at rf
  obtain⟨bs,lf,hp,h⟩:=h
  have hr:=reps_append (reps_lits (w:=w) (I:=I) first.toList) (hΓ.evs c.args.toList)
  have e:(first.toList++c.args.toList.map a.eval).toArray=first++c.args.map a.eval:=by
   apply Array.ext'
   simp
  have H:=h.apply hΓ.2 hp hr
  rw [e] at H
  obtain⟨fn,tmps,assign,body,hy,hR⟩:=H
  have hrun:(execOp a.eval o).run C.P w=.ok (.round l fn tmps assign body) w:=by
   simp only [execOp,ho,resolve,hc,rf,Deferred.ofValue]
   simp only [Sem.run_bind,Sem.run_pure,Result.andThen_ok,invoke,hy]
  unfold Oper.wpIn
  refine⟨fun f _=>C.fe_fn f,?_⟩
  rw [semAt_ok hrun (fun d e=>by cases e)]
  simp only [Oper.uponIn]
  refine⟨fun hd=>absurd hd (by rw [C.fe_depth];decide),roundIn_of (hR.mono fun en w' hx=>?_)⟩
  obtain⟨x,v,bs',rs',I',he,hv,hs,hW',hK⟩:=hx
  subst he
  exact⟨_,I',⟨(hΓ.1.mono hs).put o.dst (dstOk_spec hd) hv,hW'.put _ _⟩,hK (List.nodup_append.1 hW'.heap.nodup).1⟩
 ·exact h.elim
def appendAny (P:Program) (S:St) (d:Option Nat) (t tx:TypeId) (s x:V) (K:St→Prop):Prop :=
 match s,x with
 | .lit (.slice (some _) _ _),.lit (.int _ _)=>appZK P S d t tx s x K
 | .lit (.slice (some _) _ _),x=>appMK P S d t tx s x K∨appAK P S d t tx s x K
 | .lit (.slice none _ _),x=>(tx=t∧appendK P S d t s x K)∨appAK P S d t tx s x K
 | .list a k es,.lit (.string b)=>appSK P S d t tx (.list a k es) b K
 | s,x=>tx=t∧appendK P S d t s x K
def clearK (P:Program) (S:St) (d:Option Nat) (t:TypeId) (s:V) (K:St→Prop):Prop :=
 match P.underlying t with
 | some (.slice e)=>match s with
  | .lit (.slice none _ _)=>K (S.put d (.lit (.tuple #[])))
  | .lit (.slice (some ⟨b,o,none⟩) n _)=>(n=0→K (S.put d (.lit (.tuple #[]))))∧(0 < n→match tsz P e,tzr P e,getB S.boxes b with
   | some k,some z,some cs=>z.length=k∧okC (z.map .lit)=true∧o+n * k≤cs.length∧K ((S.setBoxes (setB S.boxes b (cs.take o++anys (n * k)++cs.drop (o+n * k)))).put d (.lit (.tuple #[])))
   | _,_,_=>False)
  | _=>False
 | _=>False
theorem step_clear {C S} {o:Oper} {c:Call} {s:Operand} {t:TypeId} {K:St→Prop} (ho:o.op=.call c) (hc:c.callee=.builtin .clear) (ha:c.args.toList=[s]) (ht:c.argTypes.toList=[t]) (hd:dstOk C.N o=true)
  (h:clearK C.P S o.dst t (VL.ev S.σ s) K):Step C S o K:=by
 have ha':c.args=#[s]:=by rw [← Array.toArray_toList (xs:=c.args),ha]
 have ht':c.argTypes=#[t]:=by rw [← Array.toArray_toList (xs:=c.argTypes),ht]
 refine Step.of_value fun a w I hΓ=>?_
 have runs:∀ y w',(Builtin.clear_ #[t] o.type #[a.eval s]).run C.P w=.ok y w'→(execOp a.eval o).run C.P w=.ok (.value y) w':=fun y w' hr=>by
  simp only [execOp,ho,resolve,hc,ha',ht']
  simp [invoke,builtin,hr]
 have rs:=hΓ.ev s
 have quiet:(Builtin.clear_ #[t] o.type #[a.eval s]).run C.P w=.ok (.tuple #[]) w→K (S.put o.dst (.lit (.tuple #[])))→∃ x w' S' I',(execOp a.eval o).run C.P w=.ok (.value x) w'∧Γ C S' (a.put o.dst x) w' I'∧K S':=fun hr hK =>
  ⟨_,w,_,I,runs _ _ hr,⟨hΓ.1.put o.dst (dstOk_spec hd) (by simp only [V.rep]),hΓ.2.put _ _⟩,hK⟩
 unfold clearK at h
 split at h
 ·rename_i e hu
  split at h
  ·rename_i n cc hs
   rw [hs] at rs
   simp only [V.rep] at rs
   refine quiet ?_ h
   rw [rs]
   simp [Builtin.clear_,run_underlying hu]
  ·rename_i b off n cc hs
   rw [hs] at rs
   simp only [V.rep] at rs
   obtain⟨h0,h1⟩:=h
   cases n with
   | zero =>
    refine quiet ?_ (h0 rfl)
    rw [rs]
    simp [Builtin.clear_,run_underlying hu]
   | succ m =>
    have h:=h1 (Nat.succ_pos m)
    split at h
    ·rename_i k z cs hk hz hb
     obtain⟨hzl,hoz,hle,hK⟩:=h
     obtain⟨v,hv,hvz⟩:=run_tzr (w:=w) hz
     have hm:=getB_mem hb
     obtain⟨arr,te,q1,q2,q3,q4⟩:=hΓ.2.heap.bx _ hm
     have hla:arr.size=cs.length:=by have:=reps_length q3;simpa using this
     have hvs:v.cells.size=k:=by have:=congrArg List.length hvz;simpa [hzl] using this
     have hnl:(Builtin.zeroCells v.cells (m+1)).toList.length=(m+1) * k:=by simp [Builtin.zeroCells,hvs]
     have hone:∀ u ∈ (Builtin.zeroCells v.cells (m+1)).toList,one u:=fun u hu'=>one_zero hoz u (by rw [← hvz];exact mem_zeroCells hu')
     have hst:=run_storeCells_at (P:=C.P) b off te (Builtin.zeroCells v.cells (m+1)).toList 0 arr w q1 (by rw [hnl];omega) (fun v hv=>one_cell' (hone v hv))
     simp only [Nat.add_zero,hnl] at hst
     obtain⟨hW,hS⟩:=hΓ.2.write (ds:=cs.take off++anys ((m+1) * k)++cs.drop (off+(m+1) * k)) (arr':=(arr.toList.take off++(Builtin.zeroCells v.cells (m+1)).toList++arr.toList.drop (off+(m+1) * k)).toArray) (List.mem_map.2 ⟨_,hm,rfl⟩) q1
      (fun u hu'=>by
       simp only [List.mem_append] at hu'
       rcases hu' with(hu' | hu') | hu'
       ·exact q2 u (List.mem_of_mem_take hu')
       ·exact hone u hu'
       ·exact q2 u (List.mem_of_mem_drop hu'))
      (reps_append (reps_append (reps_take _ q3) (reps_anys hnl)) (reps_drop _ q3))
     refine⟨.tuple #[],_,_,I,runs _ _ ?_,⟨(hΓ.1.mono hS).put o.dst (dstOk_spec hd) (by simp only [V.rep]),hW.put _ _⟩,hK⟩
     rw [rs]
     simp only [Builtin.clear_,List.getElem?_toArray,List.getElem?_cons_zero,Sem.run_bind,run_underlying hu,Result.andThen_ok,hv,hst,Sem.run_pure]
    ·exact h.elim
  ·exact h.elim
 ·exact h.elim
def buildAny (P:Program) (S:St) (d:Option Nat) (t:TypeId) (n:Nat) (parts:List (Nat × V)) (K:St→Prop):Prop :=
 match n,parts with
 | 0,[]=>buildSliceK P S d t 0 [] K∨makeSliceK P S d t (.lit (.int .i64 0)) (.lit (.int .i64 0)) K
 | n,parts=>buildSliceK P S d t n parts K
theorem step_build0 {C S} {o:Oper} {t:TypeId} {parts:Array (Nat × Operand)} {K:St→Prop} (ho:o.op=.buildSlice t 0 parts) (hp:parts.toList.map (fun p=>(p.1,VL.ev S.σ p.2))=[]) (hd:dstOk C.N o=true)
  (h:makeSliceK C.P S o.dst t (.lit (.int .i64 0)) (.lit (.int .i64 0)) K):Step C S o K:=by
 have hp0:parts=#[]:=by
  have:=congrArg List.length hp
  simpa using this
 subst hp0
 unfold makeSliceK at h
 split at h
 ·rename_i e kl lv kc cv hu hl hc
  cases hl
  cases hc
  split at h
  ·rename_i k by_ z hk hby hz
   obtain⟨hzl,hk0,hoz,h0,hlc,hb,hcm,hK⟩:=h
   refine Step.of_value fun a w I hΓ=>?_
   refine⟨_,_,_,I,?_,hΓ.boxedS o.dst (dstOk_spec hd) #[] e [] 0 0 ?_ ?_,hK _ hΓ.2.fresh⟩
   ·simp only [execOp,ho,Instr.buildSlice,newRow]
    have e0:(Array.map (fun x:Nat × Operand=>(x.1,a.eval x.2)) #[]).toList=[]:=by simp
    have f1:Instr.fill (fun i=>some (i * k,k)) (Array.map (fun x=>(#[]:Array Value)[x % (#[]:Array Value).size]!) (Array.range 0)) []=some #[]:=by
     rw [Array.range_zero',Array.map_empty];rfl
    simp only [Sem.run_bind,run_underlying hu,Result.andThen_ok,run_tsz hk,Nat.zero_mul,show ¬ (0 > 2 ^ 24) from by omega,if_false,if_true,e0,f1,run_newObj,Sem.run_pure,World.alloc_eq]
   ·intro u hu'
    cases hu'
   ·simp [V.reps]
  ·exact h.elim
 ·exact h.elim
def aOp (P:Program) (S:St) (o:Oper) (K:St→Prop):Prop :=
 match o.op with
 | .alloc t=>allocK P S o.dst t K
 | .box _ x=>boxK S o.dst (ev S.σ x) K
 | .store t p x=>storeK P S o.dst t (ev S.σ p) (ev S.σ x) K
 | .buildSlice t n parts=>buildAny P S o.dst t n (parts.toList.map fun p=>(p.1,ev S.σ p.2)) K
 | .makeSlice t l c=>makeSliceK P S o.dst t (ev S.σ l) (ev S.σ c) K
 | .makeMap t r=>makeMapK P S o.dst t (r.map (ev S.σ)) K
 | .lookup t x k ok=>lookK P S t (ev S.σ x) (ev S.σ k) ok fun v=>K (S.put o.dst v)
 | .mapUpdate t x k v=>updK P S o.dst t (ev S.σ x) (ev S.σ k) (ev S.σ v) K
 | .mapEntry t x k=>mentK P S o.dst t (ev S.σ x) (ev S.σ k) K
 | .entryStore _ x s v=>estD S o.dst (ev S.σ x) (ev S.σ s) (ev S.σ v) K
 | .range t x=>rangeK P S o.dst t (ev S.σ x) K
 | .next x false=>nextK S o.dst (ev S.σ x) K
 | .entry x=>entryK S (ev S.σ x) fun v=>K (S.put o.dst v)
 | .convert s t x=>convB P S s t (ev S.σ x) fun v=>K (S.put o.dst v)
 | .call c=>match c.callee with
  | .builtin .append=>match c.args.toList,c.argTypes.toList with
   | [s,x],[t,t']=>appendAny P S o.dst t t' (ev S.σ s) (ev S.σ x) K
   | _,_=>False
  | .builtin .copy=>match c.args.toList,c.argTypes.toList with
   | [s,x],[t,t']=>copyK P S o.dst t t' (ev S.σ s) (ev S.σ x) K
   | _,_=>False
  | .builtin .clear=>match c.args.toList,c.argTypes.toList with
   | [s],[t]=>clearK P S o.dst t (ev S.σ s) K
   | _,_=>False
  | .value f=>callE P S o.dst (ev S.σ f) (c.args.toList.map (ev S.σ)) K
  | _=>detG P S o fun v=>K (S.put o.dst v)
 | _=>detG P S o fun v=>K (S.put o.dst v)
theorem aOp_spec {C S} {o:Oper} {K:St→Prop} (hd:dstOk C.N o=true) (h:aOp C.P S o K):Step C S o K:=by
 have det:(detG C.P S o fun v=>K (S.put o.dst v))→Step C S o K:=fun h=>by
  obtain⟨v,hv,hk⟩:=detG_spec h
  exact Step.det hd hv hk
 unfold aOp at h
 split at h
 ·rename_i ho;exact step_alloc ho hd h
 ·rename_i ho;exact step_box ho hd h
 ·rename_i ho;exact step_store ho hd h
 ·rename_i ho
  unfold buildAny at h
  split at h
  ·rename_i hp
   rcases h with h | h
   ·exact step_buildSlice ho hd (by rw [hp];exact h)
   ·exact step_build0 ho hp hd h
  ·exact step_buildSlice ho hd h
 ·rename_i ho;exact step_makeSlice ho hd h
 ·rename_i ho;exact step_makeMap ho hd h
 ·rename_i ho;exact step_lookup ho hd h
 ·rename_i ho;exact step_mapUpdate ho hd h
 ·rename_i ho;exact step_mapEntry ho hd h
 ·rename_i ho;exact step_entryStore ho hd h
 ·rename_i ho;exact step_range ho hd h
 ·rename_i ho;exact step_next ho hd h
 ·rename_i ho;exact step_entry ho hd h
 ·rename_i ho;exact step_convert ho hd h
 ·rename_i ho
  split at h
  ·rename_i hc
   split at h
   ·rename_i ha ht
    unfold appendAny at h
    split at h
    ·exact step_appZ ho hc ha ht hd (by simp_all only)
    ·rcases h with h | h
     ·exact step_appM ho hc ha ht hd (by simp_all only)
     ·exact step_appA ho hc ha ht hd (by simp_all only)
    ·rcases h with⟨rfl,h⟩ | h
     ·exact step_append ho hc ha ht hd (by simp_all only)
     ·exact step_appA ho hc ha ht hd (by simp_all only)
    ·rename_i hx;exact step_appS ho hc ha ht hd hx (by simp_all only)
    ·obtain⟨rfl,h⟩:=h
     exact step_append ho hc ha ht hd h
   ·exact h.elim
  ·rename_i hc
   split at h
   ·rename_i ha ht;exact step_copy ho hc ha ht hd h
   ·exact h.elim
  ·rename_i hc
   split at h
   ·rename_i ha ht;exact step_clear ho hc ha ht hd h
   ·exact h.elim
  ·rename_i hc;exact step_call ho hc hd h
  ·exact det h
 ·exact det h
def aOps (P:Program) (ops:Array Oper) (K:St→Prop):List Oper→St→Prop
 | [],S=>K S
 | o::rest,S=>match wantA ops S.σ o with
  | some true=>aOp P S o fun S'=>aOps P ops K rest S'
  | some false=>aOps P ops K rest (S.put o.dst skipV)
  | none=>False
theorem aOps_spec {C:Ctx} {ops:Array Oper} {K:St→Prop} {Q:Exit→Act→World→Prop} (hQ:∀ S a w I,Γ C S a w I→K S→Q .normal a w):∀ (l:List Oper) (S:St) (a:Act) (w:World) (I:Cells),(∀ o ∈ l,dstOk C.N o=true)→Γ C S a w I→aOps C.P ops K l S→wpListIn C.fe 0 C.P ops Q l a w
 | [],S,a,w,I,_,hΓ,h=>hQ S a w I hΓ h
 | o::rest,S,a,w,I,hdl,hΓ,h=>by
  simp only [aOps] at h
  have hd:=hdl o List.mem_cons_self
  have hdr:=fun o' ho'=>hdl o' (List.mem_cons_of_mem _ ho')
  unfold wpListIn
  split at h
  ·rename_i hw
   rw [if_pos (wantA_spec hΓ hw)]
   refine Oper.wpIn_mono (fun a' w' ⟨S',I',hΓ',hk⟩=>?_) (aOp_spec hd h a w I hΓ Q)
   exact aOps_spec hQ rest S' a' w' I' hdr hΓ' hk
  ·rename_i hw
   rw [if_neg (by rw [wantA_spec hΓ hw];simp)]
   exact⟨fun f _=>C.fe_fn f,aOps_spec hQ rest _ _ w I hdr ⟨hΓ.1.put o.dst (dstOk_spec hd) (by simp only [skipV,V.rep]),hΓ.2.put _ _⟩ h⟩
  ·exact h.elim
end Go.VL
