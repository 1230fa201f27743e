/- Merged out of my text V10. -/
import Derived.Test.YtopfanlkbepemaaGreatKV9
import Derived.Laws.AppendOwn
import Derived.Laws.AppendOwnNone
namespace Go.VL
open Go.RowKit
theorem Step.of_value {C S} {o:Oper} {K:St→Prop} (h:∀ a w I,Γ C S a w I→∃ x w' S' I',(execOp a.eval o).run C.P w=.ok (.value x) w'∧Γ C S' (a.put o.dst x) w' I'∧K S'):Step C S o K:=by
 intro a w I hΓ Q
 obtain⟨x,w',S',I',h1,h2,h3⟩:=h a w I hΓ
 unfold Oper.wpIn
 refine⟨fun f _=>C.fe_fn f,?_⟩
 rw [semAt_ok h1 (fun d e=>by cases e)]
 exact⟨S',I',h2,h3⟩
theorem Step.of_skip {C S} {o:Oper} {K:St→Prop} (h:∀ a w I,Γ C S a w I→∃ w' S' I',(execOp a.eval o).run C.P w=.ok .skip w'∧Γ C S' (a.put o.dst undef) w' I'∧K S'):Step C S o K:=by
 intro a w I hΓ Q
 obtain⟨w',S',I',h1,h2,h3⟩:=h a w I hΓ
 unfold Oper.wpIn
 refine⟨fun f _=>C.fe_fn f,?_⟩
 rw [semAt_ok h1 (fun d e=>by cases e)]
 exact⟨S',I',h2,h3⟩
theorem Γ.ev {C S a w I} (h:Γ C S a w I) (x:Operand):V.rep w I (ev S.σ x) (a.eval x):=by
 cases x with
 | tmp t=>exact h.1.tmps t
 | const v=>simp only [VL.ev,V.rep,Act.eval]
 | global g=>exact gvL_rep h.2.heap.glob.1
 | func f=>simp only [VL.ev,V.rep,Act.eval]
theorem Γ.evs {C S a w I} (h:Γ C S a w I) (xs:List Operand):V.reps w I (xs.map (VL.ev S.σ)) (xs.map a.eval):=by
 induction xs with
 | nil=>simp [V.reps]
 | cons x xs ih=>simp only [List.map_cons,V.reps];exact⟨h.ev x,ih⟩
theorem Keeps.new {w:World} {I:Cells} (o:Obj) (hin:∀ b o,I b o→b < w.heap.size):Keeps (fun b=>b < w.heap.size) w I (w.alloc o) I :=
 ⟨rfl,rfl,rfl,by simp,fun b hb=>Below.heap_alloc w o b hb,.of (fun b i hi=>⟨hi,World.cell?_alloc_past o b i (hin b i hi)⟩) (fun b hb=>Below.heap_alloc w o b hb),fun _ _ _ h=>h,Nat.le_refl _⟩
theorem ΓW.alloc {C S w I} (h:ΓW C S w I) (o:Obj):ΓW C S (w.alloc o) I :=
 h.quiet _ (fun _ hb=>hb) (Keeps.new o h.heap.inn) fun b i hi=>by have:=h.heap.inn b i hi;simp;omega
theorem ΓW.fresh {C S w I} (h:ΓW C S w I):w.heap.size ∉ blks S.boxes S.rows:=fun hm=>by have:=h.heap.lt _ hm;omega
theorem ΓW.notF {C S w I} (h:ΓW C S w I):¬ C.F w.heap.size:=fun hF=>by have:=h.lo _ hF;have:=h.keeps.size;omega
def St.addB (S:St) (b:Nat) (x:B):St:={ S with boxes:=(b,x)::S.boxes }
def St.addBox (S:St) (b:Nat) (cs:List V):St:={ S with boxes:=(b,.c cs)::S.boxes }
def St.addRow (S:St) (r:Row):St:={ S with rows:=r::S.rows }
theorem ΓW.box {C S w I} (h:ΓW C S w I) (arr:Array Value) (e:TypeId) (cs:List V) (h1:∀ x ∈ arr.toList,one x) (h2:V.reps w I cs arr.toList) :
  ΓW C (S.addBox w.heap.size cs) (w.alloc (.cells arr e)) I:=by
 have hA:=h.alloc (.cells arr e)
 have hst:Stays w I (w.alloc (.cells arr e)) I:=(Keeps.new (.cells arr e) h.heap.inn).stays
 refine⟨⟨fun p hp=>?_,hA.heap.rw,?_,hA.heap.inn,hA.heap.glob⟩,fun b hb=>?_,hA.keeps,hA.lo⟩
 ·rcases List.mem_cons.1 hp with rfl | hp
  ·exact⟨arr,e,heap_new w _,h1,V.reps_mono hst _ _ h2,fun o hi=>by have:=h.heap.inn _ _ hi;simp at this⟩
  ·exact hA.heap.bx p hp
 ·simp only [blks,St.addBox,List.map_cons,List.cons_append,List.nodup_cons]
  exact⟨h.fresh,h.heap.nodup⟩
 ·simp only [blks,St.addBox,List.map_cons,List.cons_append,List.mem_cons] at hb
  rcases hb with rfl | hb
  ·exact h.notF
  ·exact h.mine b hb
theorem one_of_reps {w I}:∀ {cs:List V} {xs:List Value},V.reps w I cs xs→(∀ c ∈ cs,match c with | .lit x=>oneB x=true | .list _ _ _=>True | .ref _=>True | _=>False)→∀ x ∈ xs,one x
 | [],[],_,_,x,hx=>by simp at hx
 | c::cs,y::ys,h,hc,x,hx=>by
  simp only [V.reps] at h
  rcases List.mem_cons.1 hx with rfl | hx
  ·have h0:=hc c List.mem_cons_self
   have hr:=h.1
   cases c <;> simp only [V.rep] at hr h0
   case lit z=>rw [hr];exact oneB_one h0
   case list own k es=>obtain⟨_,a,c,rfl,_⟩:=hr;exact trivial
   case ref cs=>obtain⟨b,o,rfl,_⟩:=hr;exact trivial
  ·exact one_of_reps h.2 (fun c' hc'=>hc c' (List.mem_cons_of_mem _ hc')) x hx
 | [],_::_,h,_,_,_=>by simp [V.reps] at h
 | _::_,[],h,_,_,_=>by simp [V.reps] at h
def okC:List V→Bool
 | []=>true
 | .lit x::r=>oneB x && okC r
 | .list _ _ _::r=>okC r
 | .ref _::r=>okC r
 | _::_=>false
theorem okC_spec:∀ {cs:List V},okC cs=true→∀ c ∈ cs,match c with | .lit x=>oneB x=true | .list _ _ _=>True | .ref _=>True | _=>False
 | .lit x::r,h,c,hc=>by
  simp only [okC,Bool.and_eq_true] at h
  rcases List.mem_cons.1 hc with rfl | hc
  ·exact h.1
  ·exact okC_spec h.2 c hc
 | .list _ _ _::r,h,c,hc=>by
  simp only [okC] at h
  rcases List.mem_cons.1 hc with rfl | hc
  ·exact trivial
  ·exact okC_spec h c hc
 | .ref _::r,h,c,hc=>by
  simp only [okC] at h
  rcases List.mem_cons.1 hc with rfl | hc
  ·exact trivial
  ·exact okC_spec h c hc
 | .any::_,h,_,_=>by simp [okC] at h
 | .agg _::_,h,_,_=>by simp [okC] at h
 | .tup _::_,h,_,_=>by simp [okC] at h
 | [],_,_,hc=>by simp at hc
def allocK (P:Program) (S:St) (d:Option Nat) (t:TypeId) (K:St→Prop):Prop :=
 match tzr P t with
 | some z=>okC (z.map .lit)=true∧∀ b,b ∉ blks S.boxes S.rows→K ((S.addBox b (z.map .lit)).put d (.lit (.pointer (some ⟨b,0,none⟩))))
 | none=>False
theorem Γ.boxed {C S a w I} (h:Γ C S a w I) (d:Option Nat) (hd:∀ i,d=some i→i < C.N) (arr:Array Value) (e:TypeId) (cs:List V) (h1:okC cs=true) (h2:V.reps w I cs arr.toList) :
  Γ C ((S.addBox w.heap.size cs).put d (.lit (.pointer (some ⟨w.heap.size,0,none⟩)))) (a.put d (.pointer (some ⟨w.heap.size,0,none⟩))) (w.alloc (.cells arr e)) I :=
 ⟨(h.1.mono (Keeps.new (.cells arr e) h.2.heap.inn).stays).put d hd (by simp only [V.rep]),(h.2.box arr e cs (one_of_reps h2 (okC_spec h1)) h2).put _ _⟩
theorem step_alloc {C S} {o:Oper} {t:TypeId} {K:St→Prop} (ho:o.op=.alloc t) (hd:dstOk C.N o=true) (h:allocK C.P S o.dst t K):Step C S o K:=by
 unfold allocK at h
 split at h
 ·rename_i z hz
  refine Step.of_value fun a w I hΓ=>?_
  obtain⟨v,hv,hvz⟩:=run_tzr (w:=w) hz
  refine⟨_,_,_,I,?_,Γ.boxed hΓ o.dst (dstOk_spec hd) v.cells t (z.map .lit) h.1 (by rw [hvz];exact reps_lits z),h.2 _ hΓ.2.fresh⟩
  simp only [execOp,ho,Instr.alloc,newVar,newRow]
  simp only [Sem.run_bind,hv,Result.andThen_ok,run_newObj,Sem.run_pure,World.alloc_eq]
 ·exact h.elim
def boxK (S:St) (d:Option Nat) (v:V) (K:St→Prop):Prop :=
 match cellsV v with
 | some cs=>okC cs=true∧∀ b,b ∉ blks S.boxes S.rows→K ((S.addBox b cs).put d (.lit (.pointer (some ⟨b,0,none⟩))))
 | none=>False
theorem step_box {C S} {o:Oper} {t:TypeId} {x:Operand} {K:St→Prop} (ho:o.op=.box t x) (hd:dstOk C.N o=true) (h:boxK S o.dst (VL.ev S.σ x) K):Step C S o K:=by
 unfold boxK at h
 split at h
 ·rename_i cs hc
  refine Step.of_value fun a w I hΓ=>?_
  have hr:=cellsV_spec hc (hΓ.ev x)
  refine⟨_,_,_,I,?_,Γ.boxed hΓ o.dst (dstOk_spec hd) (a.eval x).cells t cs h.1 hr,h.2 _ hΓ.2.fresh⟩
  simp only [execOp,ho,Instr.box,newVar,newRow]
  simp only [Sem.run_bind,Result.andThen_ok,run_newObj,Sem.run_pure,World.alloc_eq]
 ·exact h.elim
def setB:List (Nat × B)→Nat→List V→List (Nat × B)
 | [],_,_=>[]
 | (b,cs)::r,x,ds=>if x=b then (b,.c ds)::r else (b,cs)::setB r x ds
theorem setB_keys:∀ (bs:List (Nat × B)) (x:Nat) (ds:List V),(setB bs x ds).map (·.1)=bs.map (·.1)
 | [],_,_=>rfl
 | (b,cs)::r,x,ds=>by
  unfold setB
  split
  ·rfl
  ·simp [setB_keys r x ds]
theorem setB_mem:∀ {bs:List (Nat × B)} {x:Nat} {ds:List V} {p:Nat × B},(bs.map (·.1)).Nodup→p ∈ setB bs x ds→p=(x,.c ds)∨(p ∈ bs∧p.1 ≠ x)
 | (b,cs)::r,x,ds,p,hn,hp=>by
  unfold setB at hp
  simp only [List.map_cons,List.nodup_cons] at hn
  split at hp
  ·rename_i e;subst e
   rcases List.mem_cons.1 hp with rfl | hp
   ·exact .inl rfl
   ·exact .inr ⟨List.mem_cons_of_mem _ hp,fun e=>hn.1 (e▸List.mem_map.2 ⟨p,hp,rfl⟩)⟩
  ·rename_i e
   rcases List.mem_cons.1 hp with rfl | hp
   ·exact .inr ⟨List.mem_cons_self,fun e'=>e e'.symm⟩
   ·exact(setB_mem hn.2 hp).imp id fun h=>⟨List.mem_cons_of_mem _ h.1,h.2⟩
 | [],_,_,_,_,hp=>by simp [setB] at hp
def storeK (P:Program) (S:St) (d:Option Nat) (t:TypeId) (p v:V) (K:St→Prop):Prop :=
 match p with
 | .lit (.pointer (some ⟨b,o,none⟩))=>match getB S.boxes b,cellsV v,tsz P t with
  | some cs,some vs,some n=>vs.length=n∧okC vs=true∧o+n≤cs.length∧K ({ S with boxes:=setB S.boxes b (cs.take o++vs++cs.drop (o+n)) }.put d .any)
  | _,_,_=>False
 | _=>False
theorem ΓW.write {C S w I b} {arr arr':Array Value} {e:TypeId} {ds:List V} (h:ΓW C S w I) (hb:b ∈ S.boxes.map (·.1)) (hw:w.heap[b]? = some (.cells arr e (0,0)))
  (h1:∀ x ∈ arr'.toList,one x) (h2:V.reps w I ds arr'.toList):ΓW C { S with boxes:=setB S.boxes b ds } (w.setRow b arr') I∧Stays w I (w.setRow b arr') I:=by
 have hbI:∀ o,¬ I b o:=by
  obtain⟨p,hp,rfl⟩:=List.mem_map.1 hb
  exact(h.heap.bx p hp).out
 have hst:Stays w I (w.setRow b arr') I:=.but b hw (fun _ e=>by cases e) (fun b' o hi=>⟨hi,cell_setRow_other w b arr' _ (fun e=>hbI o (by rw [← e];exact hi))⟩) (fun b' hb'=>setRow_other w b b' arr' hb')
 have hn:(S.boxes.map (·.1)).Nodup:=(List.nodup_append.1 h.heap.nodup).1
 have hblk:b ∈ blks S.boxes S.rows:=List.mem_append.2 (.inl hb)
 refine⟨⟨⟨fun p hp=>?_,fun r hr=>?_,?_,fun b' o hi=>by simpa using h.heap.inn b' o hi,h.heap.glob.mono hst⟩,?_,?_,h.lo⟩,hst⟩
 ·rcases setB_mem hn hp with rfl | ⟨hp,hne⟩
  ·exact⟨arr',e,setRow_heap w b arr arr' e (0,0) hw,h1,V.reps_mono hst _ _ h2,hbI⟩
  ·exact(h.heap.bx p hp).mono hst (setRow_other w b p.1 arr' hne) fun _ hi=>hi
 ·refine(h.heap.rw r hr).mono (fun g hg=>setRow_other w b g arr' fun e=>?_) fun _ _ _ hi=>hi
  subst e
  exact(List.nodup_append.1 h.heap.nodup).2.2 g hb g (List.mem_filterMap.2 ⟨r,hr,hg⟩) rfl
 ·simp only [blks,setB_keys];exact h.heap.nodup
 ·simp only [blks,setB_keys];exact h.mine
 ·exact h.keeps.trans ⟨rfl,rfl,rfl,by simp,fun b' hb'=>setRow_other w b b' arr' (fun e=>h.mine b hblk (e▸hb')),hst,fun _ _ _ hi=>hi,Nat.le_refl _⟩
theorem step_store {C S} {o:Oper} {t:TypeId} {x y:Operand} {K:St→Prop} (ho:o.op=.store t x y) (hd:dstOk C.N o=true) (h:storeK C.P S o.dst t (VL.ev S.σ x) (VL.ev S.σ y) K):Step C S o K:=by
 unfold storeK at h
 split at h
 ·rename_i b off hx
  split at h
  ·rename_i cs vs n hb hv hn
   obtain⟨g1,g2,g3,hK⟩:=h
   refine Step.of_skip fun a w I hΓ=>?_
   have rx:=hΓ.ev x
   rw [hx] at rx
   simp only [V.rep] at rx
   have hm:=getB_mem hb
   obtain⟨arr,e,q1,q2,q3,q4⟩:=hΓ.2.heap.bx _ hm
   have hr:=cellsV_spec hv (hΓ.ev y)
   have hl:(a.eval y).cells.size=n:=by have:=reps_length hr;simp at this;omega
   have hla:arr.size=cs.length:=by have:=reps_length q3;simpa using this
   have hone:=one_of_reps hr (okC_spec g2)
   have hst:=run_storeCells_at (P:=C.P) b off e (a.eval y).cells.toList 0 arr w q1 (by simp [hl];omega) (fun v hv'=>by
    have:=hone v hv'
    cases v <;> simp_all [one,Value.oneCell'])
   simp only [Nat.add_zero] at hst
   have hlen:(a.eval y).cells.toList.length=n:=by simpa using hl
   rw [hlen] at hst
   obtain⟨hW,hS⟩:=hΓ.2.write (ds:=cs.take off++vs++cs.drop (off+n)) (arr':=(arr.toList.take off++(a.eval y).cells.toList++arr.toList.drop (off+n)).toArray) (List.mem_map.2 ⟨_,hm,rfl⟩) q1
    (fun z hz=>by
     simp only [List.mem_append] at hz
     rcases hz with(hz | hz) | hz
     ·exact q2 z (List.mem_of_mem_take hz)
     ·exact hone z hz
     ·exact q2 z (List.mem_of_mem_drop hz))
    (reps_append (reps_append (reps_take off q3) hr) (reps_drop (off+n) q3))
   refine⟨_,_,I,?_,⟨(hΓ.1.mono hS).put o.dst (dstOk_spec hd) (by simp only [V.rep]),hW.put _ _⟩,hK⟩
   simp only [execOp,ho,rx,Instr.storeAt,Instr.sureAddr,storeVar]
   simp only [Sem.run_bind,Sem.run_pure,Result.andThen_ok,run_tsz hn,hl,ne_eq,not_true_eq_false,if_false,hst]
  ·exact h.elim
 ·exact h.elim
end Go.VL
