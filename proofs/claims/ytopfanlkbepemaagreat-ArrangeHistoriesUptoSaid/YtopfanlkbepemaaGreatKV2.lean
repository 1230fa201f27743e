/- Merged out of my text V2. -/
import Derived.Test.YtopfanlkbepemaaGreatKV0
namespace Go.VL
open Go.RowKit
structure Row where
 x:Value
 k:Nat
 e:TypeId
inductive Sh where
 | b
 | i (k:IntKind)
 | s
def fit:Sh→Value→Bool
 | .b,.bool _=>true
 | .i k,.int k' _=>decide (k=k')
 | .s,.string _=>true
 | _,_=>false
def fitL:List Sh→List Value→Bool
 | [],[]=>true
 | a::r,x::xs=>fit a x && fitL r xs
 | _,_=>false
def keyS (ks:List Sh × Bool) (v:Value):Bool:=fitL ks.1 v.cells.toList && (match v with | .agg _=>ks.2 | .tuple _=>false | _=>!ks.2)
inductive B where
 | c (cs:List V)
 | m (ks:List Sh × Bool) (es:List (Nat × Value × V)) (clock:Nat)
 | it (mb:Nat) (since:Nat) (seen:List Nat) (last:Nat)
 | obj (o:Obj)
structure St where
 σ:Nat→V
 boxes:List (Nat × B)
 rows:List Row
def Row.blk (r:Row):Option Nat:=r.x.ownBlock
def blks (boxes:List (Nat × B)) (rows:List Row):List Nat:=boxes.map (·.1)++rows.filterMap Row.blk
def BoxAt (w:World) (I:Cells) (b:Nat):B→Prop
 | .c cs=>∃ arr e,w.heap[b]? = some (.cells arr e (0,0))∧(∀ x ∈ arr.toList,one x)∧V.reps w I cs arr.toList∧∀ o,¬ I b o
 | .m ks es clock=>∃ arr,w.heap[b]? = some (.map arr clock)∧(arr.toList.map (·.born)=es.map (·.1)∧arr.toList.map (·.key)=es.map (·.2.1)∧(∀ e ∈ es,keyS ks e.2.1=true)∧(es.map (·.1)).Pairwise (· < ·)∧∀ e ∈ es,e.1 < clock)∧V.reps w I (es.map (·.2.2)) (arr.toList.map (·.val))∧∀ o,¬ I b o
 | .it mb since seen last=>w.heap[b]? = some (.mapIter (some mb) since seen.toArray last)∧∀ o,¬ I b o
 | .obj x=>w.heap[b]? = some x∧(∀ y,x ≠ .deferred y)∧∀ o,¬ I b o
def slen:Value→Nat
 | .slice _ n _=>n
 | _=>0
def RowAt (w:World) (I:Cells) (r:Row):Prop :=
 0 < r.k∧(∃ e xs,w.ownsRow 0 e r.k r.x (slen r.x) xs)∧∀ g,r.x.ownBlock=some g→∀ o,slen r.x * r.k≤o→¬ I g o
def Glob (w:World) (I:Cells):Prop:=(∀ p ∈ globs,V.ats w I p.2 p.1 0)∧∀ g ∈ gints,∃ m,w.cell? ⟨g,0,none⟩=some (.int .i64 m)∧I g 0
theorem Glob.monoC {w I w' I'} (h:Glob w I) (hs:StaysC w I w' I'):Glob w' I':=⟨fun p hp=>V.ats_monoC hs _ _ _ (h.1 p hp),fun g hg=>by
 obtain⟨m,h1,h2⟩:=h.2 g hg
 exact⟨m,by rw [(hs g 0 h2).2];exact h1,(hs g 0 h2).1⟩⟩
theorem Glob.mono {w I w' I'} (h:Glob w I) (hs:Stays w I w' I'):Glob w' I':=h.monoC hs.1
def gvL:List (Nat × List V)→Nat→V
 | [],g=>.lit (.pointer (some ⟨g,0,none⟩))
 | (a,vs)::r,g=>if a=g then .ref vs else gvL r g
theorem gvL_rep {w I}:∀ {l:List (Nat × List V)} {g:Nat},(∀ p ∈ l,V.ats w I p.2 p.1 0)→V.rep w I (gvL l g) (.pointer (some ⟨g,0,none⟩))
 | [],g,_=>by simp only [gvL,V.rep]
 | (a,vs)::r,g,h=>by
  simp only [gvL]
  split
  ·rename_i e
   subst e
   simp only [V.rep]
   exact⟨_,_,rfl,h _ List.mem_cons_self⟩
  ·exact gvL_rep fun p hp=>h p (List.mem_cons_of_mem _ hp)
structure Heap (w:World) (I:Cells) (boxes:List (Nat × B)) (rows:List Row):Prop where
 bx:∀ p ∈ boxes,BoxAt w I p.1 p.2
 rw:∀ r ∈ rows,RowAt w I r
 nodup:(blks boxes rows).Nodup
 inn:∀ b o,I b o→b < w.heap.size
 glob:Glob w I
structure Keeps (F:Nat→Prop) (w:World) (I:Cells) (w':World) (I':Cells):Prop where
 os:w'.os=w.os
 tape:w'.tape=w.tape
 output:w'.output=w.output
 size:w.heap.size≤w'.heap.size
 block:∀ b,F b→w'.heap[b]? = w.heap[b]?
 stays:Stays w I w' I'
 old:∀ b o,F b→I' b o→I b o
 drawn:w.drawn≤w'.drawn
theorem Keeps.refl (F w I):Keeps F w I w I:=⟨rfl,rfl,rfl,Nat.le_refl _,fun _ _=>rfl,Stays.refl _ _,fun _ _ _ h=>h,Nat.le_refl _⟩
theorem Keeps.trans {F w I w' I' w'' I''} (h:Keeps F w I w' I') (h':Keeps F w' I' w'' I''):Keeps F w I w'' I'' :=
 ⟨h'.os.trans h.os,h'.tape.trans h.tape,h'.output.trans h.output,Nat.le_trans h.size h'.size,fun b hb=>(h'.block b hb).trans (h.block b hb),
  h.stays.trans h'.stays,fun b o hb hi=>h.old b o hb (h'.old b o hb hi),Nat.le_trans h.drawn h'.drawn⟩
theorem Keeps.mono {F F':Nat→Prop} {w I w' I'} (h:Keeps F w I w' I') (hF:∀ b,F' b→F b):Keeps F' w I w' I' :=
 ⟨h.os,h.tape,h.output,h.size,fun b hb=>h.block b (hF b hb),h.stays,fun b o hb=>h.old b o (hF b hb),h.drawn⟩
structure Ctx where
 P:Program
 N:Nat
 F:Nat→Prop
 w0:World
 I0:Cells
 M:List (Nat × Nat)
 r:Option Nat:=none
def Ctx.fe (C:Ctx):Fence:=match C.r with | none=>Fence.wide | some l=>Fence.wide.inRound l
theorem Ctx.fe_fn (C:Ctx) (f:FuncId):C.fe.fn f:=by unfold Ctx.fe;split <;> trivial
theorem Ctx.fe_depth (C:Ctx):C.fe.depth=none:=by unfold Ctx.fe;split <;> rfl
theorem Ctx.fe_round (C:Ctx):C.fe.round=C.r:=by unfold Ctx.fe;split <;> (rename_i h;rw [h];rfl)
structure ΓW (C:Ctx) (S:St) (w:World) (I:Cells):Prop where
 heap:Heap w I S.boxes S.rows
 mine:∀ b ∈ blks S.boxes S.rows,¬ C.F b
 keeps:Keeps C.F C.w0 C.I0 w I
 lo:∀ b,C.F b→b < C.w0.heap.size
def Marks (m:Nat) (a:Act) (w:World):Prop:=a.defers.Nodup∧∀ d ∈ a.defers,∃ D,d={ target:=.collected D,args:=#[] }∧m≤D∧w.heap[D]? = some (.deferred (some []))
theorem Marks.mono {m a w I w' I'} (h:Marks m a w) (hs:Stays w I w' I'):Marks m a w':=⟨h.1,fun d hd=>by
 obtain⟨D,h1,h2,h3⟩:=h.2 d hd
 exact⟨D,h1,h2,hs.2 D _ h3⟩⟩
structure ΓA (m:Nat) (N:Nat) (σ:Nat→V) (a:Act) (w:World) (I:Cells):Prop where
 size:a.tmps.size=N
 defers:Marks m a w
 tmps:∀ i,V.rep w I (σ i) (a.tmps.getD i undef)
def Γ (C:Ctx) (S:St) (a:Act) (w:World) (I:Cells):Prop:=ΓA C.w0.heap.size C.N S.σ a w I∧ΓW C S w I
def upd (σ:Nat→V) (d:Option Nat) (v:V):Nat→V:=fun i=>if d=some i then v else σ i
theorem ΓA.mono {m N σ a w I w' I'} (h:ΓA m N σ a w I) (hs:Stays w I w' I'):ΓA m N σ a w' I' :=
 ⟨h.size,h.defers.mono hs,fun i=>V.rep_mono hs _ _ (h.tmps i)⟩
theorem ΓA.put {m N σ a w I} (h:ΓA m N σ a w I) (d:Option Nat) {v:V} {x:Value} (hd:∀ i,d=some i→i < N) (hv:V.rep w I v x):ΓA m N (upd σ d v) (a.put d x) w I:=by
 cases d with
 | none=>exact⟨h.size,h.defers,fun i=>by simpa [upd,Act.put] using h.tmps i⟩
 | some d =>
  refine⟨by simpa [Act.put] using h.size,h.defers,fun i=>?_⟩
  have hlt:d < a.tmps.size:=by rw [h.size];exact hd d rfl
  by_cases hi:d=i
  ·subst hi;simp only [upd,if_true,Act.put,Array.getD_eq_getD_getElem?, Array.getElem?_setIfInBounds_self_of_lt hlt,Option.getD_some];exact hv
  ·have:(a.tmps.setIfInBounds d x).getD i undef=a.tmps.getD i undef:=by simp [Array.getElem?_setIfInBounds_ne hi]
   simp only [upd,Option.some.injEq,hi,if_false,Act.put,this]
   exact h.tmps i
theorem ΓA.weaken {m N σ σ' a w I} (h:ΓA m N σ a w I) (hs:∀ i,σ' i=σ i∨σ' i=.any):ΓA m N σ' a w I :=
 ⟨h.size,h.defers,fun i=>by rcases hs i with e | e <;> rw [e] <;> first | exact h.tmps i | (simp only [V.rep])⟩
theorem BoxAt.mono {w I w' I' b cs} (h:BoxAt w I b cs) (hs:Stays w I w' I') (hb:w'.heap[b]? = w.heap[b]?) (hI:∀ o,I' b o→I b o):BoxAt w' I' b cs:=by
 cases cs with
 | c cs =>
  obtain⟨arr,e,h1,h2,h3,h4⟩:=h
  exact⟨arr,e,by rw [hb];exact h1,h2,V.reps_mono hs _ _ h3,fun o hi=>h4 o (hI o hi)⟩
 | m ks es clock =>
  obtain⟨arr,h1,h2,h4,h5⟩:=h
  exact⟨arr,by rw [hb];exact h1,h2,V.reps_mono hs _ _ h4,fun o hi=>h5 o (hI o hi)⟩
 | it mb since seen last=>exact⟨by rw [hb];exact h.1,fun o hi=>h.2 o (hI o hi)⟩
 | obj x=>exact⟨by rw [hb];exact h.1,h.2.1,fun o hi=>h.2.2 o (hI o hi)⟩
theorem RowAt.mono {w I w' I' r} (h:RowAt w I r) (hb:∀ g,r.x.ownBlock=some g→w'.heap[g]? = w.heap[g]?) (hI:∀ g,r.x.ownBlock=some g→∀ o,I' g o→I g o):RowAt w' I' r:=by
 obtain⟨h0,⟨te,xs,h1,h2⟩,h3⟩:=h
 refine⟨h0,⟨te,xs,h1,?_⟩,fun g hg o ho hi=>h3 g hg o ho (hI g hg o hi)⟩
 rcases h2 with h2 | ⟨g,cap,cur,e1,e2,e3,e4⟩
 ·exact .inl h2
 ·exact .inr ⟨g,cap,cur,e1,e2,by rw [hb g (by rw [e1];rfl)];exact e3,e4⟩
theorem BoxAt.lt {w I b cs} (h:BoxAt w I b cs):b < w.heap.size:=by
 cases cs with
 | c cs=>obtain⟨arr,e,h1,_⟩:=h;exact(Array.getElem?_eq_some_iff.1 h1).1
 | m ks es clock=>obtain⟨arr,h1,_⟩:=h;exact(Array.getElem?_eq_some_iff.1 h1).1
 | it mb since seen last=>exact(Array.getElem?_eq_some_iff.1 h.1).1
 | obj x=>exact(Array.getElem?_eq_some_iff.1 h.1).1
theorem BoxAt.out {w I b x} (h:BoxAt w I b x):∀ o,¬ I b o:=by
 cases x with
 | c cs=>obtain⟨arr,e,_,_,_,h4⟩:=h;exact h4
 | m ks es clock=>obtain⟨arr,_,_,_,h5⟩:=h;exact h5
 | it mb since seen last=>exact h.2
 | obj x=>exact h.2.2
theorem BoxAt.notD {w I b x} {o:Obj} (h:BoxAt w I b x) (ho:w.heap[b]? = some o):∀ y,o ≠ .deferred y:=by
 intro y e
 subst e
 cases x with
 | c cs=>obtain⟨arr,e,h1,_⟩:=h;rw [h1] at ho;cases ho
 | m ks es clock=>obtain⟨arr,h1,_⟩:=h;rw [h1] at ho;cases ho
 | it mb since seen last=>rw [h.1] at ho;cases ho
 | obj x=>rw [h.1] at ho;exact h.2.1 y (Option.some.inj ho)
theorem RowAt.lt {w I r} (h:RowAt w I r):∀ g,r.x.ownBlock=some g→g < w.heap.size:=by
 obtain⟨_,⟨_,xs,h1⟩,_⟩:=h
 exact fun g hg=>(h1.lt g hg).2
theorem Heap.lt {w I boxes rows} (h:Heap w I boxes rows):∀ b ∈ blks boxes rows,b < w.heap.size:=by
 intro b hb
 simp only [blks,List.mem_append,List.mem_map,List.mem_filterMap] at hb
 rcases hb with⟨p,hp,rfl⟩ | ⟨r,hr,e⟩
 ·exact(h.bx p hp).lt
 ·exact(h.rw r hr).lt b e
theorem Heap.step {w I boxes rows w' I'} (h:Heap w I boxes rows) (hs:Stays w I w' I') (hb:∀ b ∈ blks boxes rows,w'.heap[b]? = w.heap[b]?) (hI:∀ b ∈ blks boxes rows,∀ o,I' b o→I b o)
  (hin:∀ b o,I' b o→b < w'.heap.size):Heap w' I' boxes rows:=by
 have m1:∀ p ∈ boxes,p.1 ∈ blks boxes rows:=fun p hp=>List.mem_append.2 (.inl (List.mem_map.2 ⟨p,hp,rfl⟩))
 have m2:∀ r ∈ rows,∀ g,r.x.ownBlock=some g→g ∈ blks boxes rows:=fun r hr g hg=>List.mem_append.2 (.inr (List.mem_filterMap.2 ⟨r,hr,hg⟩))
 exact⟨fun p hp=>(h.bx p hp).mono hs (hb _ (m1 p hp)) (fun o=>hI _ (m1 p hp) o),
  fun r hr=>(h.rw r hr).mono (fun g hg=>hb g (m2 r hr g hg)) (fun g hg o=>hI g (m2 r hr g hg) o),h.nodup,hin,h.glob.mono hs⟩
theorem ΓW.quiet {C S w I w' I'} (h:ΓW C S w I) (F:Nat→Prop) (hF:∀ b,b < w.heap.size→F b) (k:Keeps F w I w' I') (hin:∀ b o,I' b o→b < w'.heap.size):ΓW C S w' I' :=
 ⟨h.heap.step k.stays (fun b hb=>k.block b (hF b (h.heap.lt b hb))) (fun b hb o=>k.old b o (hF b (h.heap.lt b hb))) hin,h.mine,
  h.keeps.trans (k.mono fun b hb=>hF b (Nat.lt_of_lt_of_le (h.lo b hb) h.keeps.size)),h.lo⟩
theorem Keeps.drew (F:Nat→Prop) (w:World) (I:Cells):Keeps F w I w.drew I:=⟨rfl,rfl,rfl,Nat.le_refl _,fun _ _=>rfl,⟨fun _ _ h=>⟨h,rfl⟩,fun _ _ h=>h⟩,fun _ _ _ h=>h,Nat.le_succ _⟩
theorem Keeps.alloc {w:World} {I:Cells} (o:Obj) (J:Nat→Prop) (hin:∀ b o,I b o→b < w.heap.size) :
  Keeps (fun b=>b < w.heap.size) w I (w.alloc o) (fun b i=>I b i∨(b=w.heap.size∧J i)):=by
 refine⟨rfl,rfl,rfl,by simp,fun b hb=>Below.heap_alloc w o b hb,.of (fun b i hi=>⟨.inl hi,?_⟩) (fun b hb=>Below.heap_alloc w o b hb),fun b i hb hi=>?_,Nat.le_refl _⟩
 ·exact World.cell?_alloc_past o b i (hin b i hi)
 ·rcases hi with hi | ⟨rfl,_⟩
  ·exact hi
  ·omega
theorem heap_new (w:World) (o:Obj):(w.alloc o).heap[w.heap.size]? = some o:=by
 show (w.heap.push o)[w.heap.size]? = _
 simp
end Go.VL
