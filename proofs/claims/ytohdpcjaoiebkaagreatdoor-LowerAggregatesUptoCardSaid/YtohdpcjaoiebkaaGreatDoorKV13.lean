/- Merged out of my text V13. -/
import Derived.Test.YtohdpcjaoiebkaaGreatDoorKVMe
import Derived.Test.YtohdpcjaoiebkaaGreatDoorKVO
import Derived.Test.YtohdpcjaoiebkaaGreatDoorKVP
set_option linter.unusedSimpArgs false
set_option linter.unusedVariables false
namespace Go.VL
open Go.RowKit
def qy (A B:Prop):Prop:=A∧B
def qho (K:Value→Prop):Prop:=∀ y,K y
def jl (S:St) (d:Option Nat) (k by_:Nat) (e:TypeId) (sv:V) (fs:List (List V)) (K:St→Prop):Prop :=
 match sv with
 | .lit (.slice none 0 0)=>qy (fs.length * by_≤140737488355328) (qho fun y=>K ((S.addRow ⟨y,k,e⟩).put d (.list (some y) k fs)))
 | .list (some y) k' es=>qy (k'=k) (j8 S.rows y fun r rs=>qy (r.k=k∧r.e=e∧(es.length+fs.length) * by_≤140737488355328) (qho fun y'=>K ((S.setRows (⟨y',k,e⟩::rs)).put d (.list (some y') k (es++fs)))))
 | _=>False
def zh (P:Program) (S:St) (d:Option Nat) (t:TypeId) (sv xv:V) (K:St→Prop):Prop :=
 match P.underlying t with
 | some (.slice e)=>match qV P e,xk P e,z7 P e with
  | some k,some by_,some z=>(0 < k∧0 < by_∧z.length=k)∧onL xv k fun fs=>jl S d k by_ e sv fs K
  | _,_,_=>False
 | _=>False
theorem qed {C:Ctx} {S:St} {t e:TypeId} {k:Nat} {x:V} {fs:List (List V)} (hu:C.P.underlying t=some (.slice e)) (hfs:∀ w I xv,V.rep w I x xv→∃ a c,xv=.slice a fs.length c∧fs.length≤c∧(fs=[]∨∃ b o,a=some ⟨b,o,none⟩∧V.lies w I k fs b o)) :
  ∀ w I xv,xE C S w I→V.rep w I x xv→(∀ e' ∈ fs,e'.length=k)∧∃ news,V.reps w I fs.flatten news∧(∀ u ∈ news,one u)∧Src C.P k t xv fs.length news w:=fun w I xv _ hr=>by
 obtain⟨a,c,rfl,hlec,hxl⟩:=hfs w I xv hr
 by_cases h0:fs=[]
 ·subst h0
  refine⟨by simp,[],by simp [V.reps],by simp,?_⟩
  cases a with
  | none=>exact Src.ofNil (P:=C.P) w hu c
  | some a=>exact Src.ofSlice (P:=C.P) w hu a 0 c [] (by simp) (by simp) (by simp)
 ·obtain⟨b,o,rfl,hlf⟩:=hxl.resolve_left h0
  obtain⟨hfk,news,hn1,hn2,hn3⟩:=u4 hlf
  exact⟨hfk,news,hn1,hn2,Src.ofSlice (P:=C.P) w hu ⟨b,o,none⟩ fs.length c news (by rw [qC hn1,xD hfk]) (fun j u hj=>by rw [Addr.add_lit];exact(hn3 j u hj).1) (fun u hu=>yN (hn2 u hu))⟩
def VF (s:ByteArray):List (List V):=(vL s).map fun v=>[v]
theorem qjo (s:ByteArray):(VF s).flatten=vL s:=by
 unfold VF
 induction vL s with
 | nil=>rfl
 | cons v r ih=>simp [ih]
theorem qo2 (s:ByteArray):(VF s).length=s.size:=by simp [VF,vL]
theorem qju {C:Ctx} {S:St} {t:TypeId} {s:ByteArray} (hu:C.P.underlying t=some .string) :
  ∀ w I xv,xE C S w I→V.rep w I (.lit (.string s)) xv→(∀ e' ∈ VF s,e'.length=1)∧∃ news,V.reps w I (VF s).flatten news∧(∀ u ∈ news,one u)∧Src C.P 1 t xv (VF s).length news w:=fun w I xv _ hr=>by
 simp only [V.rep] at hr
 subst hr
 refine⟨fun e he=>?_,byteCells s,by rw [qjo];exact Wk s,fun u hu=>?_,by rw [qo2];exact Src.ofString (P:=C.P) w hu s⟩
 ·obtain⟨v,_,rfl⟩:=List.mem_map.1 he;rfl
 ·obtain⟨_,_,rfl⟩:=List.mem_map.1 hu;exact trivial
theorem YI {C S} {o:Oper} {c:Call} {s x:Operand} {t tx e:TypeId} {k by_:Nat} {z:List Value} {fs:List (List V)} {K:St→Prop} (ho:o.op=.call c) (hc:c.callee=.builtin .append) (ha:c.args.toList=[s,x]) (hty:c.argTypes.toList=[t,tx]) (hd:qX C.N o=true)
  (hu:C.P.underlying t=some (.slice e)) (hk:qV C.P e=some k) (hby:xk C.P e=some by_) (hz:z7 C.P e=some z) (h0:0 < k) (hb0:0 < by_) (hzl:z.length=k)
  (src:∀ w I xv,xE C S w I→V.rep w I (VL.ev S.σ x) xv→(∀ e' ∈ fs,e'.length=k)∧∃ news,V.reps w I fs.flatten news∧(∀ u ∈ news,one u)∧Src C.P k tx xv fs.length news w)
  (h:jl S o.dst k by_ e (VL.ev S.σ s) fs K):zg C S o K:=by
 have ha':c.args=#[s,x]:=by rw [← Array.toArray_toList (xs:=c.args),ha]
 have ht':c.argTypes=#[t,tx]:=by rw [← Array.toArray_toList (xs:=c.argTypes),hty]
 have run:∀ (a:Act) (w w':World) (y:Value),(Builtin.append_ #[t,tx] o.type #[a.eval s,a.eval x]).run C.P w=.ok y w'→(execOp a.eval o).run C.P w=.ok (.value y) w':=fun a w w' y hr=>by
  simp only [execOp,ho,resolve,hc,ha',ht',invoke,builtin]
  simp only [Sem.run_bind,Sem.run_pure,Result.andThen_ok,List.map_toArray,List.map_cons,List.map_nil,hr]
 unfold jl at h
 split at h
 ·rename_i hs
  obtain⟨hbd,hK⟩:=h
  refine zg.of_value fun a w I hΓ=>?_
  obtain⟨hfk,news,n1,n2,hsrc⟩:=src w I _ hΓ.2 (hΓ.ev x)
  have rs:=hΓ.ev s
  rw [hs] at rs
  simp only [V.rep] at rs
  have W:=hΓ.2.addNil k h0 e
  obtain⟨y',w',I',g1,g2,g3,g4⟩:=ZU (ty:=o.type) W hu hk hby hz hb0 hzl (r:=⟨.slice none 0 0,k,e⟩) (rs:=S.rows) rfl rfl rfl (es:=[]) (by
   simp only [V.rep]
   exact⟨fun y hy=>(Option.some.inj hy),none,0,rfl,Nat.le_refl _,.inl trivial⟩) hfk n1 n2 hsrc (by simpa using hbd)
  refine⟨y',w',_,I',run a w w' y' (by rw [rs];exact g1),⟨(hΓ.1.mono g3).put o.dst (qu hd) g4,xE.put (S:=S.addRow ⟨y',k,e⟩) g2 _ _⟩,hK y'⟩
 ·rename_i y k' es hs
  obtain⟨rfl,h⟩:=h
  obtain⟨r,rs,⟨⟨hrk,hre,hbd⟩,hK⟩,hry,hp⟩:=K7 h
  refine zg.of_value fun a w I hΓ=>?_
  obtain⟨hfk,news,n1,n2,hsrc⟩:=src w I _ hΓ.2 (hΓ.ev x)
  have rsv:=hΓ.ev s
  rw [hs] at rsv
  have hyx:a.eval s=y:=by
   have:=rsv
   simp only [V.rep] at this
   exact this.1 y rfl
  rw [hyx] at rsv
  have W:=hΓ.2.perm hp
  obtain⟨y',w',I',g1,g2,g3,g4⟩:=ZU (ty:=o.type) W hu hk hby hz hb0 hzl (r:=r) (rs:=rs) rfl hrk hre (es:=es) (by rw [hry];exact rsv) hfk n1 n2 hsrc hbd
  refine⟨y',w',_,I',run a w w' y' (by rw [hyx,← hry];exact g1),⟨(hΓ.1.mono g3).put o.dst (qu hd) g4,xE.put (S:=({ S with rows:=⟨y',k',e⟩::rs }:St)) g2 _ _⟩,hK y'⟩
 ·exact h.elim
theorem XS {C S} {o:Oper} {c:Call} {s x:Operand} {t:TypeId} {K:St→Prop} (ho:o.op=.call c) (hc:c.callee=.builtin .append) (ha:c.args.toList=[s,x]) (hty:c.argTypes.toList=[t,t]) (hd:qX C.N o=true)
  (h:zh C.P S o.dst t (VL.ev S.σ s) (VL.ev S.σ x) K):zg C S o K:=by
 unfold zh at h
 split at h
 ·rename_i e hu
  split at h
  ·rename_i k by_ z hk hby hz
   obtain⟨⟨h0,hb0,hzl⟩,h⟩:=h
   obtain⟨fs,h,hfs⟩:=ZD h
   exact YI ho hc ha hty hd hu hk hby hz h0 hb0 hzl (qed hu hfs) h
  ·exact h.elim
 ·exact h.elim
def Kf (P:Program) (S:St) (d:Option Nat) (t tx:TypeId) (sv:V) (b:ByteArray) (K:St→Prop):Prop :=
 match P.underlying t with
 | some (.slice e)=>match qV P e,xk P e,z7 P e with
  | some k,some by_,some z=>(P.underlying tx=some .string∧k=1∧0 < by_∧z.length=k)∧jl S d k by_ e sv (VF b) K
  | _,_,_=>False
 | _=>False
theorem qjt {C S} {o:Oper} {c:Call} {s x:Operand} {t tx:TypeId} {b:ByteArray} {K:St→Prop} (ho:o.op=.call c) (hc:c.callee=.builtin .append) (ha:c.args.toList=[s,x]) (hty:c.argTypes.toList=[t,tx]) (hd:qX C.N o=true) (hx:VL.ev S.σ x=.lit (.string b))
  (h:Kf C.P S o.dst t tx (VL.ev S.σ s) b K):zg C S o K:=by
 unfold Kf at h
 split at h
 ·rename_i e hu
  split at h
  ·rename_i k by_ z hk hby hz
   obtain⟨⟨htx,rfl,hb0,hzl⟩,h⟩:=h
   exact YI ho hc ha hty hd hu hk hby hz (by decide) hb0 hzl (by rw [hx];exact qju htx) h
  ·exact h.elim
 ·exact h.elim
def Jy (P:Program) (l:Nat) (xs:Array Value) (w:World) (R:Ending→World→Prop):Prop :=
 ∃ fn tmps assign body,(Instr.yield l xs).run P w=.ok (.round l fn tmps assign body) w∧RoundIn Fence.wide 0 P l fn tmps assign body w R
theorem Jy.mono {P:Program} {l:Nat} {xs:Array Value} {w:World} {R R':Ending→World→Prop} (h:Jy P l xs w R) (hr:∀ e w',R e w'→R' e w'):Jy P l xs w R':=by
 obtain⟨fn,tmps,assign,body,hy,hR⟩:=h
 exact⟨fn,tmps,assign,body,hy,hR.mono hr⟩
def OkY (P:Program) (l:Nat) (args:List V) (bs:List (Nat × B)) (Q:V→List (Nat × B)→List Row→Prop):Prop :=
 ∀ w I xs,V.reps w I args xs→kq w I bs [] →
  Jy P l xs.toArray w fun e w'=>∃ x v bs' rs' I',e=.returned x∧V.rep w' I' v x∧qJ (fun b=>b < w.heap.size∧b ∉ bs.map (·.1)) w I w' I' ∧
   kq w' I' bs' rs'∧(∀ b ∈ qA bs' rs',¬ (b < w.heap.size∧b ∉ bs.map (·.1)))∧Q v bs' rs'
def qDw (P:Program) (S:St) (g:FuncId) (zs:List V) (v:V):Prop :=
 ∀ w I xs,kq w I S.boxes S.rows→V.reps w I zs xs→∃ x w',(callFunc g xs.toArray).run P w=.ok (.value x) w'∧(w'=w∨w'=w.drew)∧V.rep w' I v x
def ja (P:Program) (S:St) (d:Option Nat) (f:V) (args:List V) (K:St→Prop):Prop :=
 match f with
 | .lit (.func (.func g) first cap)=>match ql P g with
  | true=>∃ bs lf,S.boxes.Perm (bs++lf)∧Ok P g (first.toList.map .lit++args++cap.toList.map .lit) bs
   fun v bs' rs=>((bs'++lf).map (·.1)).Nodup→K (({ S with boxes:=bs'++lf,rows:=rs++S.rows }:St).put d v)
  | false=>∃ v,qDw P S g (first.toList.map .lit++args++cap.toList.map .lit) v∧K (S.put d v)
 | .lit (.func (.yield l) first _)=>∃ bs lf,S.boxes.Perm (bs++lf)∧OkY P l (first.toList.map .lit++args) bs
   fun v bs' rs=>((bs'++lf).map (·.1)).Nodup→K (({ S with boxes:=bs'++lf,rows:=rs++S.rows }:St).put d v)
 | _=>False
theorem kq.perm {w I bs bs' rows} (h:kq w I bs rows) (hp:bs.Perm bs'):kq w I bs' rows :=
 ⟨fun p hp'=>h.bx p (hp.mem_iff.2 hp'),h.rw,(List.Perm.append_right _ (hp.map _)).nodup_iff.1 h.nodup,h.inn,h.glob⟩
theorem kq.some {w I bs lf rows} (hH:kq w I (bs++lf) rows):kq w I bs []:=by
 have hbl:(bs.map (·.1)).Nodup:=by
  have h1:=(List.nodup_append.1 hH.nodup).1
  rw [List.map_append] at h1
  exact(List.nodup_append.1 h1).1
 exact⟨fun p hp'=>hH.bx p (List.mem_append.2 (.inl hp')),by simp,by simpa [qA] using hbl,hH.inn,hH.glob⟩
theorem Ok.post {C S w I} {bs lf:List (Nat × B)} {Q:V→List (Nat × B)→List Row→Prop} {e:Ending} {w':World} (hW:xE C S w I) (hp:S.boxes.Perm (bs++lf))
  (h:∃ x v bs' rs' I',e=.returned x∧V.rep w' I' v x∧qJ (fun b=>b < w.heap.size∧b ∉ bs.map (·.1)) w I w' I'∧kq w' I' bs' rs'∧(∀ b ∈ qA bs' rs',¬ (b < w.heap.size∧b ∉ bs.map (·.1)))∧Q v bs' rs') :
  ∃ x v bs' rs' I',e=.returned x∧V.rep w' I' v x∧qM w I w' I'∧xE C { S with boxes:=bs'++lf,rows:=rs'++S.rows } w' I'∧Q v bs' rs':=by
 have hH:=hW.heap.perm hp
 obtain⟨x,v,bs',rs',I',he,hv,hk,hh,hn,hQ⟩:=h
 refine⟨x,v,bs',rs',I',he,hv,hk.stays,?_,hQ⟩
 have far:∀ b ∈ qA lf S.rows,b < w.heap.size∧b ∉ bs.map (·.1):=fun b hb=>by
  have hnd:=hH.nodup
  simp only [qA,List.map_append,List.append_assoc] at hnd
  have:=List.nodup_append.1 hnd
  refine⟨hH.lt b ?_,fun hm=>this.2.2 b hm b (by simpa [qA] using hb) rfl⟩
  simp only [qA,List.map_append,List.append_assoc]
  exact List.mem_append.2 (.inr (by simpa [qA] using hb))
 have Hl:kq w I lf S.rows:=by
  refine⟨fun p hp'=>hH.bx p (List.mem_append.2 (.inr hp')),hH.rw,?_,hH.inn,hH.glob⟩
  have hnd:=hH.nodup
  simp only [qA,List.map_append,List.append_assoc] at hnd
  exact(List.nodup_append.1 hnd).2.1
 have Hl':=Hl.step hk.stays (fun b hb=>hk.block b (far b hb)) (fun b hb o=>hk.old b o (far b hb)) hh.inn
 have hperm:(qA (bs'++lf) (rs'++S.rows)).Perm (qA bs' rs'++qA lf S.rows):=by
  simp only [qA,List.map_append,List.filterMap_append,List.append_assoc]
  refine List.Perm.append_left _ ?_
  rw [← List.append_assoc,← List.append_assoc]
  exact List.Perm.append_right _ List.perm_append_comm
 refine⟨⟨fun p hp'=>?_,fun r hr'=>?_,?_,hh.inn,hh.glob⟩,fun b hb hF=>?_,?_,hW.lo⟩
 ·rcases List.mem_append.1 hp' with h1 | h1
  ·exact hh.bx p h1
  ·exact Hl'.bx p h1
 ·rcases List.mem_append.1 hr' with h1 | h1
  ·exact hh.rw r h1
  ·exact Hl'.rw r h1
 ·exact hperm.nodup_iff.2 (List.nodup_append.2 ⟨hh.nodup,Hl'.nodup,fun b hb c hc e=>hn b hb (e▸far c hc)⟩)
 ·have hm:b < w.heap.size∧b ∉ bs.map (·.1):=by
   refine⟨Nat.lt_of_lt_of_le (hW.lo b hF) hW.keeps.size,fun hm=>?_⟩
   refine hW.mine b ?_ hF
   refine List.mem_append.2 (.inl ?_)
   obtain⟨p,hp',rfl⟩:=List.mem_map.1 hm
   exact List.mem_map.2 ⟨p,hp.mem_iff.2 (List.mem_append.2 (.inl hp')),rfl⟩
  rcases List.mem_append.1 (hperm.mem_iff.1 hb) with hb | hb
  ·exact hn b hb hm
  ·refine hW.mine b ?_ hF
   simp only [qA,List.mem_append] at hb ⊢
   refine hb.imp (fun h1=>?_) id
   obtain⟨p,hp',rfl⟩:=List.mem_map.1 h1
   exact List.mem_map.2 ⟨p,hp.mem_iff.2 (List.mem_append.2 (.inr hp')),rfl⟩
 ·refine hW.keeps.trans (hk.mono fun b hF=>⟨Nat.lt_of_lt_of_le (hW.lo b hF) hW.keeps.size,fun hm=>?_⟩)
  refine hW.mine b (List.mem_append.2 (.inl ?_)) hF
  obtain⟨p,hp',rfl⟩:=List.mem_map.1 hm
  exact List.mem_map.2 ⟨p,hp.mem_iff.2 (List.mem_append.2 (.inl hp')),rfl⟩
theorem Ok.apply {C S w I} {g:FuncId} {args:List V} {xs:List Value} {bs lf:List (Nat × B)} {Q:V→List (Nat × B)→List Row→Prop} (h:Ok C.P g args bs Q) (hW:xE C S w I) (hp:S.boxes.Perm (bs++lf)) (hr:V.reps w I args xs) :
  Calls C.P g xs.toArray w fun e w'=>∃ x v bs' rs' I',e=.returned x∧V.rep w' I' v x∧qM w I w' I'∧xE C { S with boxes:=bs'++lf,rows:=rs'++S.rows } w' I'∧Q v bs' rs' :=
 (h w I xs hr (hW.heap.perm hp).some).mono fun _ _ hx=>Ok.post hW hp hx
theorem OkY.apply {C S w I} {l:Nat} {args:List V} {xs:List Value} {bs lf:List (Nat × B)} {Q:V→List (Nat × B)→List Row→Prop} (h:OkY C.P l args bs Q) (hW:xE C S w I) (hp:S.boxes.Perm (bs++lf)) (hr:V.reps w I args xs) :
  Jy C.P l xs.toArray w fun e w'=>∃ x v bs' rs' I',e=.returned x∧V.rep w' I' v x∧qM w I w' I'∧xE C { S with boxes:=bs'++lf,rows:=rs'++S.rows } w' I'∧Q v bs' rs' :=
 (h w I xs hr (hW.heap.perm hp).some).mono fun _ _ hx=>Ok.post hW hp hx
theorem qer {C:Ctx} {n l:Nat} {f:FuncId} {tmps:Array Value} {assign body:Code} {w:World} {R:Ending→World→Prop} (h:RoundIn Fence.wide n C.P l f tmps assign body w R):RoundIn C.fe n C.P l f tmps assign body w R:=by
 unfold Ctx.fe
 split
 ·exact h
 ·exact h
theorem qjr {C S} {o:Oper} {c:Call} {f:Operand} {K:St→Prop} (ho:o.op=.call c) (hc:c.callee=.value f) (hd:qX C.N o=true) (h:ja C.P S o.dst (VL.ev S.σ f) (c.args.toList.map (VL.ev S.σ)) K):zg C S o K:=by
 unfold ja at h
 split at h
 ·rename_i g first cap hf
  intro a w I hΓ Q
  have rf:=hΓ.ev f
  rw [hf] at rf
  simp only [V.rep] at rf
  split at h
  case h_2 =>
   obtain⟨v,hv,hK⟩:=h
   have hr:=qw (qw (zL (w:=w) (I:=I) first.toList) (hΓ.evs c.args.toList)) (zL cap.toList)
   obtain⟨x,w',hx,hw,hrep⟩:=hv w I _ hΓ.2.heap hr
   have e:(first.toList++c.args.toList.map a.eval++cap.toList).toArray=first++c.args.map a.eval++cap:=by
    apply Array.ext'
    simp
   rw [e] at hx
   have hrun:(execOp a.eval o).run C.P w=.ok (.value x) w':=by
    simp only [execOp,ho,resolve,hc,rf,Deferred.ofValue]
    simp only [Sem.run_bind,Sem.run_pure,Result.andThen_ok,invoke,hx]
   have hΓ':Γ C S a w' I:=by
    rcases hw with rfl | rfl
    ·exact hΓ
    ·exact⟨hΓ.1.mono (qJ.drew (fun _=>True) w I).stays,hΓ.2.quiet (fun _=>True) (fun _ _=>trivial) (qJ.drew _ w I) hΓ.2.heap.inn⟩
   unfold Oper.wpIn
   refine⟨fun f _=>C.fe_fn f,?_⟩
   rw [yK hrun (fun d e=>by cases e)]
   exact⟨_,I,⟨hΓ'.1.put o.dst (qu hd) hrep,hΓ'.2.put _ _⟩,hK⟩
  rename_i hB
  obtain⟨bs,lf,hp,h⟩:=h
  have hrun:(execOp a.eval o).run C.P w=.ok (.enter g (first++c.args.map a.eval++cap)) w:=by
   simp only [execOp,ho]
   exact YQ hc rf hB
  have hr:=qw (qw (zL (w:=w) (I:=I) first.toList) (hΓ.evs c.args.toList)) (zL cap.toList)
  have e:(first.toList++c.args.toList.map a.eval++cap.toList).toArray=first++c.args.map a.eval++cap:=by
   apply Array.ext'
   simp
  have H:=h.apply hΓ.2 hp hr
  rw [e] at H
  unfold Oper.wpIn
  refine⟨fun f _=>C.fe_fn f,?_⟩
  rw [yK hrun (fun d e=>by cases e)]
  simp only [Oper.uponIn]
  refine⟨fun hd=>absurd hd (by rw [C.fe_depth];decide),vK (H.mono fun en w' hx=>?_)⟩
  obtain⟨x,v,bs',rs',I',he,hv,hs,hW',hK⟩:=hx
  subst he
  exact⟨_,I',⟨(hΓ.1.mono hs).put o.dst (qu hd) hv,hW'.put _ _⟩,hK (List.nodup_append.1 hW'.heap.nodup).1⟩
 ·rename_i l first cap hf
  intro a w I hΓ Q
  have rf:=hΓ.ev f
  rw [hf] at rf
  simp only [V.rep] at rf
  obtain⟨bs,lf,hp,h⟩:=h
  have hr:=qw (zL (w:=w) (I:=I) first.toList) (hΓ.evs c.args.toList)
  have e:(first.toList++c.args.toList.map a.eval).toArray=first++c.args.map a.eval:=by
   apply Array.ext'
   simp
  have H:=h.apply hΓ.2 hp hr
  rw [e] at H
  obtain⟨fn,tmps,assign,body,hy,hR⟩:=H
  have hrun:(execOp a.eval o).run C.P w=.ok (.round l fn tmps assign body) w:=by
   simp only [execOp,ho,resolve,hc,rf,Deferred.ofValue]
   simp only [Sem.run_bind,Sem.run_pure,Result.andThen_ok,invoke,hy]
  unfold Oper.wpIn
  refine⟨fun f _=>C.fe_fn f,?_⟩
  rw [yK hrun (fun d e=>by cases e)]
  simp only [Oper.uponIn]
  refine⟨fun hd=>absurd hd (by rw [C.fe_depth];decide),qer (hR.mono fun en w' hx=>?_)⟩
  obtain⟨x,v,bs',rs',I',he,hv,hs,hW',hK⟩:=hx
  subst he
  exact⟨_,I',⟨(hΓ.1.mono hs).put o.dst (qu hd) hv,hW'.put _ _⟩,hK (List.nodup_append.1 hW'.heap.nodup).1⟩
 ·exact h.elim
def Ku (P:Program) (t:TypeId):Bool:=match P.underlying t with | some (.struct _)=>true | _=>false
def uI (P:Program) (S:St) (d:Option Nat) (t:TypeId) (x:V) (K:St→Prop):Prop:=Ku P t=true∧match Qr x with | some v=>K (S.put d (.lit (.iface t v))) | none=>False
theorem qd9 {C S} {o:Oper} {t:TypeId} {x:Operand} {K:St→Prop} (ho:o.op=.makeInterface t x) (hd:qX C.N o=true) (h:uI C.P S o.dst t (VL.ev S.σ x) K):zg C S o K:=by
 obtain⟨hs,h⟩:=h
 split at h
 ·rename_i v hv
  unfold Ku at hs
  split at hs
  ·rename_i fs hu
   refine zg.of_value fun a w I hΓ=>?_
   have rx:=jE hv (hΓ.ev x)
   refine⟨.iface t v,w,_,I,?_,⟨hΓ.1.put o.dst (qu hd) (v:=.lit (.iface t v)) (by simp only [V.rep]),hΓ.2.put _ _⟩,h⟩
   simp only [execOp,ho,rx,Instr.makeInterface,Sem.run_bind,run_underlying hu,Result.andThen_ok,Sem.run_pure]
  ·cases hs
 ·exact h.elim
def J6 (P:Program) (S:St) (d:Option Nat) (r:V) (name:String) (args:List V) (K:St→Prop):Prop :=
 match r with
 | .lit (.iface t v)=>∃ g u,(∀ w,(Go.method (P.types.size+Made.depth) t v name).run P w=.ok (g,u) w)∧ql P g=true∧ja P S d (.lit (.func (.func g) #[] #[])) (Ql u::args) K
 | _=>False
theorem U3 {C S} {o:Oper} {c:Call} {r:Operand} {name:String} {K:St→Prop} (ho:o.op=.call c) (hc:c.callee=.invoke r name) (hd:qX C.N o=true) (h:J6 C.P S o.dst (VL.ev S.σ r) name (c.args.toList.map (VL.ev S.σ)) K):zg C S o K:=by
 unfold J6 at h
 split at h
 ·rename_i t v hr
  obtain⟨g,u,hm,hB,h⟩:=h
  unfold ja at h
  simp only [hB] at h
  obtain⟨bs,lf,hp,h⟩:=h
  intro a w I hΓ Q
  have rf:=hΓ.ev r
  rw [hr] at rf
  simp only [V.rep] at rf
  have hrun:(execOp a.eval o).run C.P w=.ok (.enter g (#[u]++c.args.map a.eval)) w:=by
   simp only [execOp,ho,resolve,hc,rf]
   simp only [Sem.run_bind,Sem.run_pure,Result.andThen_ok,invoke]
   have e0:(#[Value.iface t v]++Array.map a.eval c.args)[0]? = some (.iface t v):=by rw [Array.getElem?_append_left (show 0 < (#[Value.iface t v]:Array Value).size from Nat.zero_lt_one)];rfl
   have e1:(#[Value.iface t v]++Array.map a.eval c.args).extract 1 (#[Value.iface t v]++Array.map a.eval c.args).size=Array.map a.eval c.args:=by
    apply Array.ext'
    simp
    exact List.take_of_length_le (by simp)
   simp only [e0,e1,callMethod,Sem.run_bind,run_program,Result.andThen_ok,hm]
   exact vo hB
  have hr2:V.reps w I (Ql u::c.args.toList.map (VL.ev S.σ)) (u::c.args.toList.map a.eval):=by
   simp only [V.reps]
   exact⟨Q9 u,hΓ.evs c.args.toList⟩
  have e:(u::c.args.toList.map a.eval).toArray=#[u]++c.args.map a.eval:=by
   apply Array.ext'
   simp
  have H:=h.apply hΓ.2 hp (by simpa using hr2)
  rw [e] at H
  unfold Oper.wpIn
  refine⟨fun f _=>C.fe_fn f,?_⟩
  rw [yK hrun (fun d e=>by cases e)]
  simp only [Oper.uponIn]
  refine⟨fun hd=>absurd hd (by rw [C.fe_depth];decide),vK (H.mono fun en w' hx=>?_)⟩
  obtain⟨x,v,bs',rs',I',he,hv,hs,hW',hK⟩:=hx
  subst he
  exact⟨_,I',⟨(hΓ.1.mono hs).put o.dst (qu hd) hv,hW'.put _ _⟩,hK (List.nodup_append.1 hW'.heap.nodup).1⟩
 ·exact h.elim
def zi (P:Program) (S:St) (d:Option Nat) (t tx:TypeId) (s x:V) (K:St→Prop):Prop :=
 match s,x with
 | .lit (.slice (some _) _ _),.lit (.int _ _)=>Jr P S d t tx s x K
 | .lit (.slice (some _) _ _),x=>v6 P S d t tx s x K∨ua P S d t tx s x K
 | .lit (.slice none _ _),x=>(tx=t∧zh P S d t s x K)∨ua P S d t tx s x K
 | .list a k es,.lit (.string b)=>Kf P S d t tx (.list a k es) b K
 | s,x=>tx=t∧zh P S d t s x K
def vJ (P:Program) (S:St) (d:Option Nat) (t:TypeId) (s:V) (K:St→Prop):Prop :=
 match P.underlying t with
 | some (.slice e)=>match s with
  | .lit (.slice none _ _)=>K (S.put d (.lit (.tuple #[])))
  | .lit (.slice (some ⟨b,o,none⟩) n _)=>(n=0→K (S.put d (.lit (.tuple #[]))))∧(0 < n→match qV P e,z7 P e,zu S.boxes b with
   | some k,some z,some cs=>z.length=k∧yP (z.map .lit)=true∧o+n * k≤cs.length∧K ((S.setBoxes (xV S.boxes b (cs.take o++xf (n * k)++cs.drop (o+n * k)))).put d (.lit (.tuple #[])))
   | _,_,_=>False)
  | _=>False
 | _=>False
theorem qeb {C S} {o:Oper} {c:Call} {s:Operand} {t:TypeId} {K:St→Prop} (ho:o.op=.call c) (hc:c.callee=.builtin .clear) (ha:c.args.toList=[s]) (ht:c.argTypes.toList=[t]) (hd:qX C.N o=true)
  (h:vJ C.P S o.dst t (VL.ev S.σ s) K):zg C S o K:=by
 have ha':c.args=#[s]:=by rw [← Array.toArray_toList (xs:=c.args),ha]
 have ht':c.argTypes=#[t]:=by rw [← Array.toArray_toList (xs:=c.argTypes),ht]
 refine zg.of_value fun a w I hΓ=>?_
 have runs:∀ y w',(Builtin.clear_ #[t] o.type #[a.eval s]).run C.P w=.ok y w'→(execOp a.eval o).run C.P w=.ok (.value y) w':=fun y w' hr=>by
  simp only [execOp,ho,resolve,hc,ha',ht']
  simp [invoke,builtin,hr]
 have rs:=hΓ.ev s
 have quiet:(Builtin.clear_ #[t] o.type #[a.eval s]).run C.P w=.ok (.tuple #[]) w→K (S.put o.dst (.lit (.tuple #[])))→∃ x w' S' I',(execOp a.eval o).run C.P w=.ok (.value x) w'∧Γ C S' (a.put o.dst x) w' I'∧K S':=fun hr hK =>
  ⟨_,w,_,I,runs _ _ hr,⟨hΓ.1.put o.dst (qu hd) (by simp only [V.rep]),hΓ.2.put _ _⟩,hK⟩
 unfold vJ at h
 split at h
 ·rename_i e hu
  split at h
  ·rename_i n cc hs
   rw [hs] at rs
   simp only [V.rep] at rs
   refine quiet ?_ h
   rw [rs]
   simp [Builtin.clear_,run_underlying hu]
  ·rename_i b off n cc hs
   rw [hs] at rs
   simp only [V.rep] at rs
   obtain⟨h0,h1⟩:=h
   cases n with
   | zero =>
    refine quiet ?_ (h0 rfl)
    rw [rs]
    simp [Builtin.clear_,run_underlying hu]
   | succ m =>
    have h:=h1 (Nat.succ_pos m)
    split at h
    ·rename_i k z cs hk hz hb
     obtain⟨hzl,hoz,hle,hK⟩:=h
     obtain⟨v,hv,hvz⟩:=Zw (w:=w) hz
     have hm:=zX hb
     obtain⟨arr,te,q1,q2,q3,q4⟩:=hΓ.2.heap.bx _ hm
     have hla:arr.size=cs.length:=by have:=qC q3;simpa using this
     have hvs:v.cells.size=k:=by have:=congrArg List.length hvz;simpa [hzl] using this
     have hnl:(Builtin.zeroCells v.cells (m+1)).toList.length=(m+1) * k:=by simp [Builtin.zeroCells,hvs]
     have hone:∀ u ∈ (Builtin.zeroCells v.cells (m+1)).toList,one u:=fun u hu'=>ZC hoz u (by rw [← hvz];exact wP hu')
     have hst:=run_storeCells_at (P:=C.P) b off te (Builtin.zeroCells v.cells (m+1)).toList 0 arr w q1 (by rw [hnl];omega) (fun v hv=>yN (hone v hv))
     simp only [Nat.add_zero,hnl] at hst
     obtain⟨hW,hS⟩:=hΓ.2.write (ds:=cs.take off++xf ((m+1) * k)++cs.drop (off+(m+1) * k)) (arr':=(arr.toList.take off++(Builtin.zeroCells v.cells (m+1)).toList++arr.toList.drop (off+(m+1) * k)).toArray) (List.mem_map.2 ⟨_,hm,rfl⟩) q1
      (fun u hu'=>by
       simp only [List.mem_append] at hu'
       rcases hu' with(hu' | hu') | hu'
       ·exact q2 u (List.mem_of_mem_take hu')
       ·exact hone u hu'
       ·exact q2 u (List.mem_of_mem_drop hu'))
      (qw (qw (xb _ q3) (yM hnl)) (xc _ q3))
     refine⟨.tuple #[],_,_,I,runs _ _ ?_,⟨(hΓ.1.mono hS).put o.dst (qu hd) (by simp only [V.rep]),hW.put _ _⟩,hK⟩
     rw [rs]
     simp only [Builtin.clear_,List.getElem?_toArray,List.getElem?_cons_zero,Sem.run_bind,run_underlying hu,Result.andThen_ok,hv,hst,Sem.run_pure]
    ·exact h.elim
  ·exact h.elim
 ·exact h.elim
def ka (P:Program) (S:St) (d:Option Nat) (t:TypeId) (n:Nat) (parts:List (Nat × V)) (K:St→Prop):Prop :=
 match n,parts with
 | 0,[]=>qI P S d t 0 [] K∨zo P S d t (.lit (.int .i64 0)) (.lit (.int .i64 0)) K
 | n,parts=>qI P S d t n parts K
theorem U4 {C S} {o:Oper} {t:TypeId} {parts:Array (Nat × Operand)} {K:St→Prop} (ho:o.op=.buildSlice t 0 parts) (hp:parts.toList.map (fun p=>(p.1,VL.ev S.σ p.2))=[]) (hd:qX C.N o=true)
  (h:zo C.P S o.dst t (.lit (.int .i64 0)) (.lit (.int .i64 0)) K):zg C S o K:=by
 have hp0:parts=#[]:=by
  have:=congrArg List.length hp
  simpa using this
 subst hp0
 unfold zo at h
 split at h
 ·rename_i e kl lv kc cv hu hl hc
  cases hl
  cases hc
  split at h
  ·rename_i k by_ z hk hby hz
   obtain⟨hzl,hk0,hoz,h0,hlc,hb,hcm,hK⟩:=h
   refine zg.of_value fun a w I hΓ=>?_
   refine⟨_,_,_,I,?_,hΓ.boxedS o.dst (qu hd) #[] ⟨e,VC hk⟩ [] 0 0 ?_ ?_,hK _ hΓ.2.fresh⟩
   ·simp only [execOp,ho,Instr.buildSlice,newRow]
    have e0:(Array.map (fun x:Nat × Operand=>(x.1,a.eval x.2)) #[]).toList=[]:=by simp
    have f1:Instr.fill (fun i=>some (i * k,k)) (Array.map (fun x=>(#[]:Array Value)[x % (#[]:Array Value).size]!) (Array.range 0)) []=some #[]:=by
     rw [Array.range_zero',Array.map_empty];rfl
    simp only [Sem.run_bind,run_underlying hu,Result.andThen_ok,zx hk,Nat.zero_mul,show ¬ (0 > 2 ^ 24) from by omega,if_false,if_true,e0,f1,run_newObj,Sem.run_pure,World.alloc_eq]
   ·intro u hu'
    cases hu'
   ·simp [V.reps]
  ·exact h.elim
 ·exact h.elim
def Ko:List (Nat × B)→Nat→Option Nat
 | [],_=>none
 | (b,x)::r,y=>if y=b then (match x with | .m _ es _=>some es.length | _=>none) else Ko r y
theorem qb6:∀ {bs:List (Nat × B)} {x n:Nat},Ko bs x=some n→∃ ks es cl,(x,.m ks es cl) ∈ bs∧es.length=n
 | [],_,_,h=>by cases h
 | (b,y)::r,x,n,h=>by
  unfold Ko at h
  split at h
  ·rename_i e;subst e
   split at h
   ·rename_i ks es cl
    exact⟨ks,es,cl,List.mem_cons_self,Option.some.inj h⟩
   ·cases h
  ·obtain⟨ks,es,cl,h1,h2⟩:=qb6 h
   exact⟨ks,es,cl,List.mem_cons_of_mem _ h1,h2⟩
def Kn (S:St) (v:V) (k:V→Prop):Prop :=
 match v with
 | .lit (.map (some b))=>match Ko S.boxes b with
  | some n=>k (.lit (.int .i64 n))
  | none=>False
 | _=>False
def qu1 (P:Program) (t:TypeId):Bool:=match P.underlying t with | some (.map _ _)=>true | _=>false
def J4 (P:Program) (S:St) (t:TypeId) (v:V) (k:V→Prop):Prop:=if qu1 P t=true then Kn S v k else lenK P t v k
theorem qo4 {C S} {o:Oper} {c:Call} {x:Operand} {t:TypeId} {K:St→Prop} (ho:o.op=.call c) (hc:c.callee=.builtin .len) (ha:c.args.toList=[x]) (ht:c.argTypes.toList=[t]) (hd:qX C.N o=true) (hm:qu1 C.P t=true) (h:Kn S (VL.ev S.σ x) fun v=>K (S.put o.dst v)):zg C S o K:=by
 have ha':c.args=#[x]:=by rw [← Array.toArray_toList (xs:=c.args),ha]
 have ht':c.argTypes=#[t]:=by rw [← Array.toArray_toList (xs:=c.argTypes),ht]
 unfold Kn at h
 split at h
 ·rename_i b hx
  split at h
  ·rename_i n hn
   obtain⟨ks,es,cl,hmm,hl⟩:=qb6 hn
   unfold qu1 at hm
   split at hm
   ·rename_i kt vt hu
    refine zg.of_value fun a w I hΓ=>?_
    have r:=hΓ.ev x
    rw [hx] at r
    simp only [V.rep] at r
    obtain⟨arr,g1,g2,_⟩:=MapAt.all (hΓ.2.heap.bx _ hmm)
    have hsz:arr.size=n:=by rw [← hl,← List.length_map (f:=(·.1)) (as:=es),← g2];simp
    refine⟨.int .i64 n,w,_,I,?_,⟨hΓ.1.put o.dst (qu hd) (v:=.lit (.int .i64 n)) (by simp only [V.rep]),hΓ.2.put _ _⟩,h⟩
    simp only [execOp,ho,resolve,hc,ha',ht']
    simp [invoke,builtin,Builtin.len_,r,run_underlying hu,MapKept.run_getObj_map g1,hsz,goInt]
   ·cases hm
  ·exact h.elim
 ·exact h.elim
def aOp (P:Program) (S:St) (o:Oper) (K:St→Prop):Prop :=
 match o.op with
 | .alloc t=>ky P S o.dst t K
 | .box t x=>ue S o.dst t (ev S.σ x) K
 | .fieldAddr s x f=>fieldAddrK P S.boxes s f (ev S.σ x) fun v=>K (S.put o.dst v)
 | .store t p x=>xO P S o.dst t (ev S.σ p) (ev S.σ x) K
 | .buildSlice t n parts=>ka P S o.dst t n (parts.toList.map fun p=>(p.1,ev S.σ p.2)) K
 | .makeSlice t l c=>zo P S o.dst t (ev S.σ l) (ev S.σ c) K
 | .makeMap t r=>xX P S o.dst t (r.map (ev S.σ)) K
 | .lookup t x k ok=>QG P S t (ev S.σ x) (ev S.σ k) ok fun v=>K (S.put o.dst v)
 | .mapUpdate t x k v=>KO P S o.dst t (ev S.σ x) (ev S.σ k) (ev S.σ v) K
 | .insert t x k v=>KO P S o.dst t (ev S.σ x) (ev S.σ k) (ev S.σ v) K
 | .mapEntry t x k=>ZG P S o.dst t (ev S.σ x) (ev S.σ k) K
 | .makeInterface t x=>uI P S o.dst t (ev S.σ x) K
 | .entryStore _ x s v=>W5 S o.dst (ev S.σ x) (ev S.σ s) (ev S.σ v) K
 | .range t x=>vr P S o.dst t (ev S.σ x) K
 | .next x false=>uE S o.dst (ev S.σ x) K
 | .entry x=>jY S (ev S.σ x) fun v=>K (S.put o.dst v)
 | .convert s t x=>uL P S s t (ev S.σ x) fun v=>K (S.put o.dst v)
 | .call c=>match c.callee with
  | .builtin .append=>match c.args.toList,c.argTypes.toList with
   | [s,x],[t,t']=>zi P S o.dst t t' (ev S.σ s) (ev S.σ x) K
   | _,_=>False
  | .builtin .copy=>match c.args.toList,c.argTypes.toList with
   | [s,x],[t,t']=>js P S o.dst t t' (ev S.σ s) (ev S.σ x) K
   | _,_=>False
  | .builtin .clear=>match c.args.toList,c.argTypes.toList with
   | [s],[t]=>vJ P S o.dst t (ev S.σ s) K
   | _,_=>False
  | .builtin .len=>match c.args.toList,c.argTypes.toList with
   | [x],[t]=>J4 P S t (ev S.σ x) fun v=>K (S.put o.dst v)
   | _,_=>False
  | .value f=>ja P S o.dst (ev S.σ f) (c.args.toList.map (ev S.σ)) K
  | .invoke r name=>J6 P S o.dst (ev S.σ r) name (c.args.toList.map (ev S.σ)) K
  | _=>detG P S o fun v=>K (S.put o.dst v)
 | _=>detG P S o fun v=>K (S.put o.dst v)
theorem Jx {C S} {o:Oper} {K:St→Prop} (hd:qX C.N o=true) (h:aOp C.P S o K):zg C S o K:=by
 have det:(detG C.P S o fun v=>K (S.put o.dst v))→zg C S o K:=fun h=>by
  obtain⟨v,hv,hk⟩:=Xq h
  exact zg.det hd hv hk
 unfold aOp at h
 split at h
 ·rename_i ho;exact qec ho hd h
 ·rename_i ho;exact qo5 ho hd h
 ·rename_i ho
  obtain⟨v,hv,hk⟩:=QJ ho (fun _ _ h=>h) h
  exact zg.det hd hv hk
 ·rename_i ho;exact qd7 ho hd h
 ·rename_i ho
  unfold ka at h
  split at h
  ·rename_i hp
   rcases h with h | h
   ·exact vR ho hd (by rw [hp];exact h)
   ·exact U4 ho hp hd h
  ·exact vR ho hd h
 ·rename_i ho;exact Wc ho hd h
 ·rename_i ho;exact VG ho hd h
 ·rename_i ho;exact U2 ho hd h
 ·rename_i ho;exact ut (.inl ho) hd h
 ·rename_i ho;exact ut (.inr ho) hd h
 ·rename_i ho;exact JL ho hd h
 ·rename_i ho;exact qd9 ho hd h
 ·rename_i ho;exact Kk ho hd h
 ·rename_i ho;exact qd8 ho hd h
 ·rename_i ho;exact qjp ho hd h
 ·rename_i ho;exact qea ho hd h
 ·rename_i ho;exact VH ho hd h
 ·rename_i ho
  split at h
  ·rename_i hc
   split at h
   ·rename_i ha ht
    unfold zi at h
    split at h
    ·exact qjs ho hc ha ht hd (by simp_all only)
    ·rcases h with h | h
     ·exact YH ho hc ha ht hd (by simp_all only)
     ·exact YJ ho hc ha ht hd (by simp_all only)
    ·rcases h with⟨rfl,h⟩ | h
     ·exact XS ho hc ha ht hd (by simp_all only)
     ·exact YJ ho hc ha ht hd (by simp_all only)
    ·rename_i hx;exact qjt ho hc ha ht hd hx (by simp_all only)
    ·obtain⟨rfl,h⟩:=h
     exact XS ho hc ha ht hd h
   ·exact h.elim
  ·rename_i hc
   split at h
   ·rename_i ha ht;exact qjq ho hc ha ht hd h
   ·exact h.elim
  ·rename_i hc
   split at h
   ·rename_i ha ht;exact qeb ho hc ha ht hd h
   ·exact h.elim
  ·rename_i hc
   split at h
   ·rename_i ha ht
    unfold J4 at h
    split at h
    ·rename_i hm;exact qo4 ho hc ha ht hd hm h
    ·refine det ?_
     obtain⟨d,op,ty,pos,af,gd⟩:=o
     simp only at ho
     subst ho
     simp only [detG,detF,hc,ha,ht]
     exact h
   ·exact h.elim
  ·rename_i hc;exact qjr ho hc hd h
  ·rename_i hc;exact U3 ho hc hd h
  ·exact det h
 ·exact det h
def Qv (P:Program) (ops:Array Oper) (K:St→Prop):List Oper→St→Prop
 | [],S=>K S
 | o::rest,S=>match zS ops S.σ o with
  | some true=>aOp P S o fun S'=>Qv P ops K rest S'
  | some false=>Qv P ops K rest (S.put o.dst wA)
  | none=>False
theorem Qi {C:Ctx} {ops:Array Oper} {K:St→Prop} {Q:Exit→Act→World→Prop} (hQ:∀ S a w I,Γ C S a w I→K S→Q .normal a w):∀ (l:List Oper) (S:St) (a:Act) (w:World) (I:Cells),(∀ o ∈ l,qX C.N o=true)→Γ C S a w I→Qv C.P ops K l S→wpListIn C.fe 0 C.P ops Q l a w
 | [],S,a,w,I,_,hΓ,h=>hQ S a w I hΓ h
 | o::rest,S,a,w,I,hdl,hΓ,h=>by
  simp only [Qv] at h
  have hd:=hdl o List.mem_cons_self
  have hdr:=fun o' ho'=>hdl o' (List.mem_cons_of_mem _ ho')
  unfold wpListIn
  split at h
  ·rename_i hw
   rw [if_pos (xS hΓ hw)]
   refine Oper.wpIn_mono (fun a' w' ⟨S',I',hΓ',hk⟩=>?_) (Jx hd h a w I hΓ Q)
   exact Qi hQ rest S' a' w' I' hdr hΓ' hk
  ·rename_i hw
   rw [if_neg (by rw [xS hΓ hw];simp)]
   exact⟨fun f _=>C.fe_fn f,Qi hQ rest _ _ w I hdr ⟨hΓ.1.put o.dst (qu hd) (by simp only [wA,V.rep]),hΓ.2.put _ _⟩ h⟩
  ·exact h.elim
end Go.VL
