/- Merged out of my texts V1 V0 V2 V3 V4 V5 V6 V7 V8 V9 V10 VZA V11 V12 VA VB. -/
import Derived.Test.YtkdgbjhbpbgdeaaGreatDoorKA
import Derived.WalkKit
import Derived.Laws.Strings
import Derived.Laws.Cover3
import Derived.Laws.Small
import Derived.Laws.Slices
import Derived.OrdersIn
import Derived.RangeFuncCalls
import Derived.TacticsIn
import Derived.StillTail
import Derived.Laws.AppendOwn
import Derived.Laws.AppendOwnNone
import Derived.KernelRfl
import Derived.Deep.AppendSrc
import Derived.Laws.MakeOwn
set_option linter.defProp false
set_option linter.unusedSimpArgs false
set_option linter.unusedVariables false
namespace Go.VL
inductive V where
 | any
 | lit (v:Value)
 | agg (vs:List V)
 | list (own:Option Value) (k:Nat) (es:List (List V))
 | ref (vs:List V)
 | tup (vs:List V)
 | fn (f:FuncId) (vs:List V)
 deriving Inhabited
abbrev Cells:=Nat->Nat->Prop
def one:Value->Prop
 | .agg _=>False
 | .tuple _=>False
 | _=>True
mutual
def V.rep (w:World) (I:Cells):V->Value->Prop
 | .any,_=>True
 | .lit v,x=>x=v
 | .agg vs,x=>∃ xs,x=.agg xs/\V.reps w I vs xs.toList
 | .list own k es,x=>(∀ y,own=some y->x=y)/\∃ a c,x=.slice a es.length c/\es.length<=c/\(es=[]∨∃ b o,a=some ⟨b,o,none⟩/\V.lies w I k es b o)
 | .ref vs,x=>∃ b o,x=.pointer (some ⟨b,o,none⟩)/\V.ats w I vs b o
 | .tup vs,x=>∃ xs,x=.tuple xs/\V.reps w I vs xs.toList
 | .fn f vs,x=>∃ xs,x=.func (.func f) xs #[]/\V.reps w I vs xs.toList
def V.reps (w:World) (I:Cells):List V->List Value->Prop
 | [],[]=>True
 | v::vs,x::xs=>V.rep w I v x/\V.reps w I vs xs
 | [],_::_=>False
 | _::_,[]=>False
def V.ats (w:World) (I:Cells):List V->Nat->Nat->Prop
 | [],_,_=>True
 | v::vs,b,o=>(∃ x,w.cell? ⟨b,o,none⟩=some x/\I b o/\one x/\V.rep w I v x)/\V.ats w I vs b (o+1)
def V.lies (w:World) (I:Cells) (k:Nat):List (List V)->Nat->Nat->Prop
 | [],_,_=>True
 | e::es,b,o=>V.ats w I e b o/\e.length=k/\V.lies w I k es b (o+k)
end
def XP (w:World) (I:Cells) (w':World) (I':Cells):Prop:=∀ b o,I b o->I' b o/\w'.cell? ⟨b,o,none⟩=w.cell? ⟨b,o,none⟩
def zf (w:World) (I:Cells) (w':World) (I':Cells):Prop:=(∀ b o,I b o->I' b o/\w'.cell? ⟨b,o,none⟩=w.cell? ⟨b,o,none⟩)/\∀ (b:Nat) x,w.heap[b]? = some (.deferred x)->w'.heap[b]? = some (.deferred x)
theorem zf.refl (w:World) (I:Cells):zf w I w I:=⟨fun _ _ h=>⟨h,rfl⟩,fun _ _ h=>h⟩
theorem zf.trans {w I w' I' w'' I''} (h:zf w I w' I') (a:zf w' I' w'' I''):zf w I w'' I'' :=
 ⟨fun b o d=>⟨(a.1 b o (h.1 b o d).1).1,((a.1 b o (h.1 b o d).1).2).trans (h.1 b o d).2⟩,fun b x e=>a.2 b x (h.2 b x e)⟩
theorem zf.of {w I w' I'} (h:∀ b o,I b o->I' b o/\w'.cell? ⟨b,o,none⟩=w.cell? ⟨b,o,none⟩) (hb:∀ b,b < w.heap.size->w'.heap[b]? = w.heap[b]?):zf w I w' I' :=
 ⟨h,fun b x a=>by rw [hb b (vx.1 a).1];omega⟩
theorem zf.but {w I w' I'} (c:Nat) {o:Obj} (a:w.heap[c]? = some o) (hd:∀ x,o ≠ .deferred x) (h:∀ b o,I b o->I' b o/\w'.cell? ⟨b,o,none⟩=w.cell? ⟨b,o,none⟩) (hb:∀ b,b ≠ c->w'.heap[b]? = w.heap[b]?):zf w I w' I' :=
 ⟨h,fun b x d=>by
  by_cases e:b=c
  ·simp_all
  simp_all⟩
section
variable {w w':World} {I I':Cells}
mutual
theorem V.rep_monoC (j:XP w I w' I'):∀ (v:V) (x:Value),V.rep w I v x->V.rep w' I' v x
 | .any,_,_=>by assumption
 | .lit v,x,h=>by assumption
 | .agg vs,x,h=>by
  simp only [V.rep] at h ⊢;obtain⟨xs,d,e⟩:=h;exact⟨xs,d,V.reps_monoC j vs _ e⟩
 | .list own k es,x,h=>by
  simp only [V.rep] at h ⊢;obtain⟨d,a,c,e,n,p⟩:=h;exact⟨d,a,c,e,n,p.imp id fun⟨b,o,q,u⟩=>⟨b,o,q,V.lies_monoC j k es _ _ u⟩⟩
 | .ref vs,x,h=>by
  simp only [V.rep] at h ⊢;obtain⟨b,o,d,e⟩:=h;exact⟨b,o,d,V.ats_monoC j vs _ _ e⟩
 | .tup vs,x,h=>by
  simp only [V.rep] at h ⊢;obtain⟨xs,d,e⟩:=h;exact⟨xs,d,V.reps_monoC j vs _ e⟩
 | .fn f vs,x,h=>by
  simp only [V.rep] at h ⊢;obtain⟨xs,d,e⟩:=h;exact⟨xs,d,V.reps_monoC j vs _ e⟩
theorem V.reps_monoC (a:XP w I w' I'):∀ (vs:List V) (xs:List Value),V.reps w I vs xs->V.reps w' I' vs xs
 | [],[],_=>by assumption
 | v::vs,x::xs,h=>by
  simp only [V.reps] at h ⊢;exact⟨V.rep_monoC a v x h.1,V.reps_monoC a vs xs h.2⟩
 | [],_::_,h=>by assumption
 | _::_,[],h=>by assumption
theorem V.ats_monoC (a:XP w I w' I'):∀ (vs:List V) (b o:Nat),V.ats w I vs b o->V.ats w' I' vs b o
 | [],_,_,_=>by assumption
 | v::vs,b,o,h=>by
  simp only [V.ats] at h ⊢;obtain⟨⟨x,n,d,e,j⟩,k⟩:=h;exact⟨⟨x,by rw [(a b o d).2];omega,(a b o d).1,e,V.rep_monoC a v x j⟩,V.ats_monoC a vs b (o+1) k⟩
theorem V.lies_monoC (a:XP w I w' I'):∀ (k:Nat) (es:List (List V)) (b o:Nat),V.lies w I k es b o->V.lies w' I' k es b o
 | _,[],_,_,_=>by assumption
 | k,e::es,b,o,h=>by
  simp only [V.lies] at h ⊢;exact⟨V.ats_monoC a e b o h.1,h.2.1,V.lies_monoC a k es b (o+k) h.2.2⟩
end
end
section
variable {w w':World} {I I':Cells}
theorem V.rep_mono (a:zf w I w' I') (v:V) (x:Value) (h:V.rep w I v x):V.rep w' I' v x:=V.rep_monoC a.1 v x h
theorem V.reps_mono (a:zf w I w' I') (vs:List V) (xs:List Value) (h:V.reps w I vs xs):V.reps w' I' vs xs:=V.reps_monoC a.1 vs xs h
theorem V.lies_mono (a:zf w I w' I') (k:Nat) (es:List (List V)) (b o:Nat) (h:V.lies w I k es b o):V.lies w' I' k es b o:=V.lies_monoC a.1 k es b o h
end
section
variable {w:World} {I:Cells}
theorem qM:∀ {vs:List V} {xs:List Value},V.reps w I vs xs->xs.length=vs.length
 | [],[],_=>rfl
 | _::vs,_::xs,h=>by simp only [V.reps] at h;simp [qM h.2]
 | [],_::_,h=>by simp only [V.reps] at h
 | _::_,[],h=>by simp only [V.reps] at h
theorem Kb:∀ {vs:List V} {xs:List Value},V.reps w I vs xs->∀ (i:Nat) (x:Value),xs[i]? = some x->∃ v,vs[i]? = some v/\V.rep w I v x
 | [],[],_,i,x,h=>by simp at h
 | v::vs,y::xs,h,0,x,hx=>by
  simp only [V.reps] at h;simp_all
 | _::vs,_::xs,h,i+1,x,hx=>by
  simp only [V.reps] at h;simpa using Kb h.2 i x (by simp_all)
 | [],_::_,h,_,_,_=>by simp only [V.reps] at h
 | _::_,[],h,_,_,_=>by simp_all
theorem vZ:∀ {vs us:List V} {b o:Nat},V.ats w I (vs++us) b o↔V.ats w I vs b o/\V.ats w I us b (o+vs.length)
 | [],us,b,o=>by simp [V.ats]
 | v::vs,us,b,o=>by
  simp only [List.cons_append,V.ats,List.length_cons];rw [vZ (vs:=vs),and_assoc,show o+1+vs.length=o+(vs.length+1) from by omega]
theorem qz0 {vs:List V} {b o:Nat} (h:V.ats w I vs b o) (n:Nat) (a:n<=vs.length):V.ats w I (vs.drop n) b (o+n):=by
 have:=vZ (w:=w) (I:=I) (vs:=vs.take n) (us:=vs.drop n) (b:=b) (o:=o);simp_all
theorem qzz {vs:List V} {b o:Nat} (h:V.ats w I vs b o) (n:Nat):V.ats w I (vs.take n) b o:=by
 have:=vZ (w:=w) (I:=I) (vs:=vs.take n) (us:=vs.drop n) (b:=b) (o:=o);simp_all
theorem ur:∀ {k:Nat} {es fs:List (List V)} {b o:Nat},V.lies w I k (es++fs) b o↔V.lies w I k es b o/\V.lies w I k fs b (o+es.length * k)
 | k,[],fs,b,o=>by simp [V.lies]
 | k,e::es,fs,b,o=>by
  simp only [List.cons_append,V.lies,List.length_cons];rw [ur (es:=es),show o+k+es.length * k=o+(es.length+1) * k from by rw [uu];omega];constructor
  ·simp_all
  simp_all
theorem qft:∀ {k:Nat} {es:List (List V)} {b o:Nat},V.lies w I k es b o->∀ (i:Nat) (e:List V),es[i]? = some e->V.ats w I e b (o+i * k)/\e.length=k
 | k,e::es,b,o,h,0,e',he=>by
  simp only [V.lies] at h;simp_all
 | k,e::es,b,o,h,i+1,e',he=>by
  simp only [V.lies] at h;have:=qft h.2.2 i e' (by simp_all);rwa [show o+k+i * k=o+(i+1) * k from by rw [uu];omega] at this
 | k,[],b,o,h,i,e',he=>by simp at he
theorem qhw:∀ {vs:List V} {b o:Nat},V.ats w I vs b o->∀ (j:Nat) (v:V),vs[j]? = some v->∃ x,w.cell? ⟨b,o+j,none⟩=some x/\I b (o+j)/\one x/\V.rep w I v x
 | v::vs,b,o,h,0,v',hv=>by
  simp only [V.ats] at h;simp_all
 | v::vs,b,o,h,j+1,v',hv=>by
  simp only [V.ats] at h;have:=qhw h.2 j v' (by simp_all);rwa [show o+1+j=o+(j+1) from by omega] at this
 | [],b,o,h,j,v',hv=>by simp at hv
end
theorem aI {a b:Prop} (x:a) (y:b):a/\b:=⟨x,y⟩
theorem aN {a b c d e f g h i:Prop} (p:a) (q:b) (r:c) (s:d) (t:e) (u:f) (v:g) (w:h) (x:i):a/\b/\c/\d/\e/\f/\g/\h/\i:=⟨p,q,r,s,t,u,v,w,x⟩
def dnB:Bool:=true
def ntypes:Nat:=424
theorem qGs:ntypes=424:=rfl
abbrev TyB:={ t:TypeId // t < ntypes }
abbrev globsV:List (Nat × List V):=[(1,[.list none 1 [[.lit (.string ⟨#[99,111,117,110,116]⟩)],[.lit (.string ⟨#[115,117,109]⟩)],[.lit (.string ⟨#[109,101,97,110]⟩)],[.lit (.string ⟨#[109,105,110]⟩)],[.lit (.string ⟨#[109,97,120]⟩)],[.lit (.string ⟨#[102,105,114,115,116]⟩)],[.lit (.string ⟨#[108,97,115,116]⟩)],[.lit (.string ⟨#[100,105,115,116,105,110,99,116]⟩)],[.lit (.string ⟨#[113,117,97,110,116,105,108,101]⟩)],[.lit (.string ⟨#[100,101,99,97,121]⟩)]]]),(2,[.list none 1 [[.lit (.string ⟨#[45]⟩)],[.lit (.string ⟨#[110,111,116]⟩)],[.lit (.string ⟨#[110,117,108,108]⟩)]]]),(3,[.list none 1 [[.lit (.string ⟨#[43]⟩)],[.lit (.string ⟨#[45]⟩)],[.lit (.string ⟨#[42]⟩)],[.lit (.string ⟨#[47]⟩)],[.lit (.string ⟨#[61,61]⟩)],[.lit (.string ⟨#[33,61]⟩)],[.lit (.string ⟨#[60]⟩)],[.lit (.string ⟨#[60,61]⟩)],[.lit (.string ⟨#[97,110,100]⟩)],[.lit (.string ⟨#[111,114]⟩)]]])]
def qn5:List (Nat × List V):=globsV
def qLt:List Nat:=[0]
open Go.RowKit
structure Row where
 x:Value
 k:Nat
 e:TypeId
inductive Sh where
 | b
 | i (k:IntKind)
 | s
def fit:Sh->Value->Bool
 | .b,.bool _=>true
 | .i k,.int k' _=>decide (k=k')
 | .s,.string _=>true
 | _,_=>false
def xk:List Sh->List Value->Bool
 | [],[]=>true
 | a::r,x::xs=>fit a x && xk r xs
 | _,_=>false
def wd (ks:List Sh × Bool) (v:Value):Bool:=xk ks.1 v.cells.toList && (match v with | .agg _=>ks.2 | .tuple _=>false | _=>!ks.2)
inductive B where
 | c (cs:List V)
 | m (ks:List Sh × Bool) (es:List (Nat × Value × V)) (clock:Nat)
 | it (mb:Nat) (since:Nat) (seen:List Nat) (last:Nat)
 | obj (o:Obj)
abbrev Bx:=List (Nat × B)
structure St where
 σ:Nat->V
 boxes:Bx
 rows:List Row
def Row.blk (r:Row):Option Nat:=r.x.ownBlock
def qL (boxes:Bx) (rows:List Row):List Nat:=boxes.map (·.1)++rows.filterMap Row.blk
def xR (w:World) (I:Cells) (b:Nat):B->Prop
 | .c cs=>∃ arr,∃ e:TyB,w.heap[b]? = some (.cells arr e.1 (0,0))/\(∀ x ∈ arr.toList,one x)/\V.reps w I cs arr.toList/\∀ o,¬ I b o
 | .m ks es clock=>∃ arr,w.heap[b]? = some (.map arr clock)/\(arr.toList.map (·.born)=es.map (·.1)/\arr.toList.map (·.key)=es.map (·.2.1)/\(∀ e ∈ es,wd ks e.2.1=true)/\(es.map (·.1)).Pairwise (· < ·)/\∀ e ∈ es,e.1 < clock)/\V.reps w I (es.map (·.2.2)) (arr.toList.map (·.val))/\∀ o,¬ I b o
 | .it mb since seen last=>w.heap[b]? = some (.mapIter (some mb) since seen.toArray last)/\∀ o,¬ I b o
 | .obj x=>w.heap[b]? = some x/\(∀ y,x ≠ .deferred y)/\∀ o,¬ I b o
def V6:Value->Nat
 | .slice _ n _=>n
 | _=>0
def qbm (w:World) (I:Cells) (r:Row):Prop :=
 0 < r.k/\(∃ e a,w.ownsRow 0 e r.k r.x (V6 r.x) a)/\∀ g,r.x.ownBlock=some g->∀ o,V6 r.x * r.k<=o->¬ I g o
def UC (w:World) (I:Cells):Prop:=(∀ p ∈ qn5,V.ats w I p.2 p.1 0)/\∀ g ∈ qLt,∃ m,w.cell? ⟨g,0,none⟩=some (.int .i64 m)/\I g 0
theorem UC.monoC {w I w' I'} (h:UC w I) (a:XP w I w' I'):UC w' I':=⟨fun p j=>V.ats_monoC a _ _ _ (h.1 p j),fun g e=>by
 obtain⟨m,k,d⟩:=h.2 g e;exact⟨m,by rw [(a g 0 d).2];omega,(a g 0 d).1⟩⟩
theorem UC.mono {w I w' I'} (h:UC w I) (a:zf w I w' I'):UC w' I':=h.monoC a.1
def gvL:List (Nat × List V)->Nat->V
 | [],g=>.lit (.pointer (some ⟨g,0,none⟩))
 | (a,vs)::r,g=>if a=g then .ref vs else gvL r g
theorem qcs {w I}:∀ {l:List (Nat × List V)} {g:Nat},(∀ p ∈ l,V.ats w I p.2 p.1 0)->V.rep w I (gvL l g) (.pointer (some ⟨g,0,none⟩))
 | [],g,_=>by rfl
 | (a,vs)::r,g,h=>by
  simp only [gvL];split
  ·rename_i e;subst e;simp only [V.rep];exact⟨_,_,rfl,h _ x6⟩
  ·exact qcs fun p d=>h p (z8 _ d)
structure wX (w:World) (I:Cells) (boxes:Bx) (rows:List Row):Prop where
 bx:∀ p ∈ boxes,xR w I p.1 p.2
 rw:∀ r ∈ rows,qbm w I r
 nodup:(qL boxes rows).Nodup
 inn:∀ b o,I b o->b < w.heap.size
 glob:UC w I
structure qV (F:Nat->Prop) (w:World) (I:Cells) (w':World) (I':Cells):Prop where
 os:w'.os=w.os
 tape:w'.tape=w.tape
 output:w'.output=w.output
 size:w.heap.size<=w'.heap.size
 block:∀ b,F b->w'.heap[b]? = w.heap[b]?
 stays:zf w I w' I'
 old:∀ b o,F b->I' b o->I b o
 drawn:dnB=true->w.drawn<=w'.drawn
theorem qV.refl (F w I):qV F w I w I:=⟨rfl,rfl,rfl,w3 _,fun _ _=>rfl,zf.refl _ _,fun _ _ _ h=>h,fun _=>w3 _⟩
theorem qV.trans {F w I w' I' w'' I''} (h:qV F w I w' I') (a:qV F w' I' w'' I''):qV F w I w'' I'' :=
 ⟨a.os.trans h.os,a.tape.trans h.tape,a.output.trans h.output,km h.size a.size,fun b d=>(a.block b d).trans (h.block b d),
  h.stays.trans a.stays,fun b o d j=>h.old b o d (a.old b o d j),fun e=>km (h.drawn e) (a.drawn e)⟩
theorem qV.mono {F d:Nat->Prop} {w I w' I'} (h:qV F w I w' I') (e:∀ b,d b->F b):qV d w I w' I' :=
 ⟨h.os,h.tape,h.output,h.size,fun b a=>h.block b (e b a),h.stays,fun b o a=>h.old b o (e b a),h.drawn⟩
structure Ctx where
 P:Program
 N:Nat
 F:Nat->Prop
 w0:World
 I0:Cells
 M:List (Nat × Nat)
 r:Option Nat:=none
def Ctx.fe (C:Ctx):Fence:=match C.r with | none=>Fence.wide | some l=>Fence.wide.inRound l
theorem Ctx.fe_fn (C:Ctx) (f:FuncId):C.fe.fn f:=by unfold Ctx.fe;split <;> trivial
theorem Ctx.fe_depth (C:Ctx):C.fe.depth=none:=by unfold Ctx.fe;split <;> rfl
theorem Ctx.fe_round (C:Ctx):C.fe.round=C.r:=by unfold Ctx.fe;split <;> (simp_all)
structure kS (C:Ctx) (S:St) (w:World) (I:Cells):Prop where
 heap:wX w I S.boxes S.rows
 mine:∀ b ∈ qL S.boxes S.rows,¬ C.F b
 keeps:qV C.F C.w0 C.I0 w I
 lo:∀ b,C.F b->b < C.w0.heap.size
def qor (m:Nat) (a:Act) (w:World):Prop:=a.defers.Nodup/\∀ d ∈ a.defers,∃ D,d={ target:=.collected D,args:=#[] }/\m<=D/\w.heap[D]? = some (.deferred (some []))
theorem qor.mono {m a w I w' I'} (h:qor m a w) (n:zf w I w' I'):qor m a w':=⟨h.1,fun d hd=>by
 obtain⟨D,e,j,k⟩:=h.2 d hd;exact⟨D,e,j,n.2 D _ k⟩⟩
structure ΓA (m:Nat) (N:Nat) (σ:Nat->V) (a:Act) (w:World) (I:Cells):Prop where
 size:a.tmps.size=N
 defers:qor m a w
 tmps:∀ i,V.rep w I (σ i) (a.tmps.getD i undef)
def Γ (C:Ctx) (S:St) (a:Act) (w:World) (I:Cells):Prop:=ΓA C.w0.heap.size C.N S.σ a w I/\kS C S w I
def UI (σ:Nat->V) (d:Option Nat) (v:V):Nat->V:=fun i=>if d=some i then v else σ i
theorem ΓA.mono {m N σ a w I w' I'} (h:ΓA m N σ a w I) (d:zf w I w' I'):ΓA m N σ a w' I' :=
 ⟨h.size,h.defers.mono d,fun i=>V.rep_mono d _ _ (h.tmps i)⟩
theorem ΓA.put {m N σ a w I} (h:ΓA m N σ a w I) (d:Option Nat) {v:V} {x:Value} (hd:∀ i,d=some i->i < N) (k:V.rep w I v x):ΓA m N (UI σ d v) (a.put d x) w I:=by
 cases d with
 | none=>assumption
 | some d =>
  refine⟨by simpa [Act.put] using h.size,h.defers,fun i=>?_⟩;have j:d < a.tmps.size:=by rw [h.size];exact hd d rfl
  by_cases e:d=i
  ·subst e;simp only [UI,if_true,Act.put,qOs, qQc j,Option.getD_some];omega
  ·have:(a.tmps.setIfInBounds d x).getD i undef=a.tmps.getD i undef:=by simp [qQt e]
   simp only [UI,qAo,e,if_false,Act.put,this];exact h.tmps i
theorem ΓA.weaken {m N σ σ' a w I} (h:ΓA m N σ a w I) (d:∀ i,σ' i=σ i∨σ' i=.any):ΓA m N σ' a w I :=
 ⟨h.size,h.defers,fun i=>by rcases d i with e | e <;> rw [e] <;> first | exact h.tmps i | (simp only [V.rep])⟩
theorem xR.mono {w I w' I' b cs} (h:xR w I b cs) (n:zf w I w' I') (hb:w'.heap[b]? = w.heap[b]?) (d:∀ o,I' b o->I b o):xR w' I' b cs:=by
 cases cs with
 | c cs =>
  obtain⟨arr,e,p,j,q,k⟩:=h;exact⟨arr,e,by simp_all,j,V.reps_mono n _ _ q,fun o a=>k o (d o a)⟩
 | m y es clock =>
  obtain⟨arr,p,j,k,u⟩:=h;exact⟨arr,by simp_all,j,V.reps_mono n _ _ k,fun o a=>u o (d o a)⟩
 | it z since seen last=>exact⟨by rw [hb];exact h.1,fun o a=>h.2 o (d o a)⟩
 | obj x=>exact⟨by rw [hb];exact h.1,h.2.1,fun o a=>h.2.2 o (d o a)⟩
theorem qbm.mono {w I w' I' r} (h:qbm w I r) (hb:∀ g,r.x.ownBlock=some g->w'.heap[g]? = w.heap[g]?) (x:∀ g,r.x.ownBlock=some g->∀ o,I' g o->I g o):qbm w' I' r:=by
 obtain⟨p,⟨A,C,q,a⟩,u⟩:=h;refine⟨p,⟨A,C,q,?_⟩,fun g e o z y=>u g e o z (x g e o y)⟩;rcases a with a | ⟨g,cap,j,d,k,D,n⟩
 ·exact .inl a
 ·exact .inr ⟨g,cap,j,d,k,by rw [hb g (by rw [d];rfl)];omega,n⟩
theorem xR.lt {w I b cs} (h:xR w I b cs):b < w.heap.size:=by
 cases cs with
 | c cs=>obtain⟨arr,e,a,_⟩:=h;exact(vx.1 a).1
 | m d es clock=>obtain⟨arr,a,_⟩:=h;exact(vx.1 a).1
 | it j since seen last=>exact(vx.1 h.1).1
 | obj x=>exact(vx.1 h.1).1
theorem xR.out {w I b x} (h:xR w I b x):∀ o,¬ I b o:=by
 cases x with
 | c a=>obtain⟨arr,e,_,_,_,d⟩:=h;omega
 | m k es clock=>obtain⟨arr,_,_,_,j⟩:=h;omega
 | it n since seen last=>exact h.2
 | obj x=>exact h.2.2
theorem xR.notD {w I b x} {o:Obj} (h:xR w I b x) (a:w.heap[b]? = some o):∀ y,o ≠ .deferred y:=by
 intro y e;subst e;cases x with
 | c j=>obtain⟨arr,e,d,_⟩:=h;simp_all
 | m k es clock=>obtain⟨arr,d,_⟩:=h;simp_all
 | it n since seen last=>rw [h.1] at a;cases a
 | obj x=>rw [h.1] at a;exact h.2.1 y (KL a)
theorem qbm.lt {w I r} (h:qbm w I r):∀ g,r.x.ownBlock=some g->g < w.heap.size:=by
 obtain⟨_,⟨_,e,a⟩,_⟩:=h;exact fun g d=>(a.lt g d).2
theorem wX.lt {w I boxes rows} (h:wX w I boxes rows):∀ b ∈ qL boxes rows,b < w.heap.size:=by
 intro b a;simp only [qL,z6,x9,qMx] at a;rcases a with⟨p,d,rfl⟩ | ⟨r,j,e⟩
 ·exact(h.bx p d).lt
 ·exact(h.rw r j).lt b e
theorem wX.step {w I boxes rows w' I'} (h:wX w I boxes rows) (k:zf w I w' I') (hb:∀ b ∈ qL boxes rows,w'.heap[b]? = w.heap[b]?) (j:∀ b ∈ qL boxes rows,∀ o,I' b o->I b o)
  (u:∀ b o,I' b o->b < w'.heap.size):wX w' I' boxes rows:=by
 have n:∀ p ∈ boxes,p.1 ∈ qL boxes rows:=fun p d=>z6.2 (.inl (x9.2 ⟨p,d,rfl⟩));have q:∀ r ∈ rows,∀ g,r.x.ownBlock=some g->g ∈ qL boxes rows:=fun r e g a=>z6.2 (.inr (qMx.2 ⟨r,e,a⟩));exact⟨fun p d=>(h.bx p d).mono k (hb _ (n p d)) (fun o=>j _ (n p d) o),
  fun r e=>(h.rw r e).mono (fun g a=>hb g (q r e g a)) (fun g a o=>j g (q r e g a) o),h.nodup,u,h.glob.mono k⟩
theorem kS.quiet {C S w I w' I'} (h:kS C S w I) (F:Nat->Prop) (d:∀ b,b < w.heap.size->F b) (k:qV F w I w' I') (e:∀ b o,I' b o->b < w'.heap.size):kS C S w' I' :=
 ⟨h.heap.step k.stays (fun b a=>k.block b (d b (h.heap.lt b a))) (fun b a o=>k.old b o (d b (h.heap.lt b a))) e,h.mine,
  h.keeps.trans (k.mono fun b a=>d b (qMn (h.lo b a) h.keeps.size)),h.lo⟩
theorem qV.drew (F:Nat->Prop) (w:World) (I:Cells):qV F w I w.drew I:=⟨rfl,rfl,rfl,w3 _,fun _ _=>rfl,⟨fun _ _ h=>⟨h,rfl⟩,fun _ _ h=>h⟩,fun _ _ _ h=>h,fun _=>qF2 _⟩
theorem qV.alloc {w:World} {I:Cells} (o:Obj) (J:Nat->Prop) (e:∀ b o,I b o->b < w.heap.size) :
  qV (fun b=>b < w.heap.size) w I (w.alloc o) (fun b i=>I b i∨(b=w.heap.size/\J i)):=by
 refine⟨rfl,rfl,rfl,by simp,fun b d=>Below.heap_alloc w o b d,.of (fun b i a=>⟨.inl a,?_⟩) (fun b d=>Below.heap_alloc w o b d),fun b i d a=>?_,fun _=>w3 _⟩
 ·exact World.cell?_alloc_past o b i (e b i a)
 ·rcases a with a | ⟨rfl,_⟩
  ·omega
  omega
theorem yB (w:World) (o:Obj):(w.alloc o).heap[w.heap.size]? = some o:=by
 show (w.heap.push o)[w.heap.size]? = _;simp
def zK (P:Program) (t:TypeId):Option Nat:=if t < ntypes then (P.info? t).map (·.size) else none
def QN (P:Program) (t:TypeId):Option Nat:=(P.info? t).map (·.bytes)
def kG (P:Program) (t:TypeId):Option (List Value):=if t < ntypes then (P.info? t).bind fun i=>i.zero.map fun z=>z.cells.toList else none
variable {P:Program}
theorem qbs {t n} (h:zK P t=some n):t < ntypes:=by unfold zK at h;simp_all
theorem uM {t n} (h:zK P t=some n):(P.info? t).map (·.size)=some n:=by unfold zK at h;simp_all
theorem qHz {t z} (h:kG P t=some z):t < ntypes:=by unfold kG at h;simp_all
theorem X0 {t z} (h:kG P t=some z):((P.info? t).bind fun i=>i.zero.map fun z=>z.cells.toList)=some z:=by unfold kG at h;simp_all
def xO (P:Program) (t:TypeId):Option Bool :=
 match P.underlying t with
 | some (.struct _)=>some true
 | some (.array _ _)=>some true
 | some _=>some false
 | none=>none
section
variable {P:Program} {w:World} {t:TypeId}
theorem xm {n:Nat} (h:zK P t=some n):(sizeOf t).run P w=.ok n w:=by
 replace h:=uM h;cases a:P.info? t with
 | none=>simp_all
 | some i=>simp [a] at h;simp [sizeOf,typeInfo,a,h]
theorem ZK {b:Bool} (h:xO P t=some b):(isAgg t).run P w=.ok b w:=by
 unfold xO at h;cases hd:P.underlying t with
 | none=>simp_all
 | some d=>cases d <;> simp [hd] at h <;> simp [isAgg,run_underlying hd,h]
theorem X8 {z:List Value} (h:kG P t=some z):∃ v,(zeroValue t).run P w=.ok v w/\v.cells.toList=z:=by
 replace h:=X0 h;cases a:P.info? t with
 | none=>simp_all
 | some i =>
  cases d:i.zero with
  | none=>simp_all
  | some v=>simp [a,d] at h;exact⟨v,by simp [zeroValue,typeInfo,a,d],h⟩
end
def Ok (P:Program) (f:FuncId) (args:List V) (d:Bx) (Q:V->Bx->List Row->Prop):Prop :=
 ∀ w I n,V.reps w I args n->wX w I d [] ->
  Calls P f n.toArray w fun e k=>∃ x v h j a,e=.returned x/\V.rep k a v x/\qV (fun b=>b < w.heap.size/\b ∉ d.map (·.1)) w I k a /\
   wX k a h j/\(∀ b ∈ qL h j,¬ (b < w.heap.size/\b ∉ d.map (·.1)))/\Q v h j
def yU (C:Ctx) (S:St) (w:World) (I:Cells) (v:V):Result Next->Prop
 | .ok (.value x) w'=>∃ a,kS C S w' a/\zf w I w' a/\V.rep w' a v x
 | .ok .skip w'=>∃ a,kS C S w' a/\zf w I w' a/\V.rep w' a v undef
 | .ok (.enter f args) w'=>w'=w/\Calls C.P f args w fun e d=>∃ x a,e=.returned x/\kS C S d a/\zf w I d a/\V.rep d a v x
 | _=>False
def Oper.tm (o:Oper):List Tmp:=o.op.operands.toList.filterMap fun | .tmp t=>some t | _=>none
def VM (σ:Nat->V) (l:List Tmp) (a:Act) (w:World) (I:Cells):Prop:=(∀ t ∈ l,V.rep w I (σ t) (a.tmps.getD t undef))/\UC w I
def kh (C:Ctx) (S:St) (o:Oper) (v:V):Prop :=
 ∀ a w I,VM S.σ (Oper.tm o) a w I->kS C S w I->yU C S w I v ((execOp a.eval o).run C.P w)
def ev (σ:Nat->V):Operand->V
 | .tmp t=>σ t
 | .const v=>.lit v
 | .global g=>gvL qn5 g
 | .func f=>.lit (.func (.func f) #[] #[])
variable {w:World} {I:Cells} {x:Operand}
theorem qlo {σ:Nat->V} {l:List Tmp} {a:Act} (h:VM σ l a w I) (d:∀ t,x=.tmp t->t ∈ l):V.rep w I (ev σ x) (a.eval x):=by
 cases x with
 | tmp t=>exact h.1 t (d t rfl)
 | const v=>rfl
 | global g=>exact qcs h.2.1
 | func f=>rfl
theorem vH {o:Oper} (a:x ∈ o.op.operands):∀ t,x=.tmp t->t ∈ Oper.tm o:=fun t e=>by
 subst e;exact qMx.2 ⟨.tmp t,by simp_all,rfl⟩
theorem zL {S:St} {o:Oper} {a:Act} (h:VM S.σ (Oper.tm o) a w I) (d:x ∈ o.op.operands):V.rep w I (ev S.σ x) (a.eval x) :=
 qlo h (vH d)
theorem yU.same {C S w I v x} (a:kS C S w I) (d:V.rep w I v x):yU C S w I v (.ok (.value x) w):=⟨I,a,zf.refl _ _,d⟩
def Has (w:World) (I:Cells) (cs:List V) (b o:Nat):Prop:=∀ j v,cs[j]? = some v->∃ x,w.cell? ⟨b,o+j,none⟩=some x/\V.rep w I v x
theorem Has.of_ats {w I cs b o} (h:V.ats w I cs b o):Has w I cs b o:=fun j v a=>by
 obtain⟨x,d,_,_,e⟩:=qhw h j v a;simp_all
theorem Has.of_box {w I b cs} (h:xR w I b (.c cs)):Has w I cs b 0:=fun j v a=>by
 obtain⟨arr,e,o,_,d,_⟩:=h;have q:=qM d;have p:j < arr.toList.length:=by rw [q];exact(qNj.1 a).1
 obtain⟨u,k,n⟩:=Kb d j _ (yb p);rw [k] at a;obtain rfl:=KL a;exact⟨_,by simp [World.cell?, o],n⟩
theorem Has.drop {w I cs b o} (h:Has w I cs b o) (n:Nat):Has w I (cs.drop n) b (o+n):=fun j v a=>by
 have:=h (n+j) v (by simp_all);rwa [show o+(n+j)=o+n+j from by omega] at this
def loadK (P:Program) (t:TypeId) (cs:List V) (k:V->Prop):Prop :=
 match xO P t,zK P t with
 | some true,some n=>n<=cs.length/\k (.agg (cs.take n))
 | some false,some _=>match cs with
  | c::_=>k c
  | []=>False
 | _,_=>False
theorem Ka {w:World} {I:Cells}:∀ {vs:List V} {xs:List Value},xs.length=vs.length->(∀ (j:Nat) (v:V) (x:Value),vs[j]? = some v->xs[j]? = some x->V.rep w I v x)->V.reps w I vs xs
 | [],[],_,_=>by simp only [V.reps]
 | v::vs,x::xs,hl,h=>by
  simp only [V.reps];exact⟨h 0 v x rfl rfl,Ka (by simp_all) fun j a x' d e=>h (j+1) a x' (by simp_all) (by simp_all)⟩
 | [],_::_,hl,_=>by simp at hl
 | _::_,[],hl,_=>by simp at hl
variable {P:Program} {t:TypeId} {cs:List V} {k:V->Prop}
theorem YO (h:loadK P t cs k) :
  ∃ v,k v/\∀ w I b o,Has w I cs b o->∃ x,(loadVar t ⟨b,o,none⟩).run P w=.ok x w/\V.rep w I v x:=by
 unfold loadK at h;split at h
 ·rename_i n d u;refine⟨_,h.2,fun w I b o p=>?_⟩;have key:∀ j,j < n->∃ x,w.cell? ⟨b,o+j,none⟩=some x/\V.rep w I (cs.getD j .any) x:=fun j a=>by
   have A:j < cs.length:=qMn a h.1;have:=p j cs[j] (yb A);simp_all
  have e:∃ f:Nat->Value,∀ j,j < n->w.cell? ⟨b,o+j,none⟩=some (f j)/\V.rep w I (cs.getD j .any) (f j) :=
   ⟨fun j=>if a:j < n then (key j a).choose else undef,fun j a=>by simp only [a,dif_pos];exact(key j a).choose_spec⟩
  obtain⟨f,e⟩:=e;refine⟨.agg ((List.range n).map f).toArray,?_,?_⟩
  ·have:=run_loadCells (P:=P) w ⟨b,o,none⟩ n f (fun j a=>by rw [Addr.add_lit];simp_all);simp [loadVar,ZK d,xm u,this]
  ·simp only [V.rep];refine⟨_,rfl,Ka (by simp_all) fun j v x y C=>?_⟩;rw [qLd] at y;split at y
   ·rename_i a;have D:f j=x:=by simpa [qPx,List.getElem?_range a] using C
    rw [<-D];have:=(e j a).2;simp_all
   simp_all
 ·rename_i d u;cases cs with
  | nil=>simp_all
  | cons c cs =>
   refine⟨c,h,fun w I b o p=>?_⟩;obtain⟨x,q,z⟩:=p 0 c rfl;exact⟨x,by simp only [Nat.add_zero] at q;simp [loadVar,ZK d,q],z⟩
 simp_all
def zF:Bx->Nat->Option (List V)
 | [],_=>none
 | (b,.c cs)::r,x=>if x=b then some cs else zF r x
 | (b,_)::r,x=>if x=b then none else zF r x
theorem xq:∀ {a:Bx} {x:Nat} {cs:List V},zF a x=some cs->(x,.c cs) ∈ a
 | (b,.c c)::r,x,cs,h=>by
  unfold zF at h;split at h
  ·simp_all
  ·exact z8 _ (xq h)
 | (b,.m _ _ _)::r,x,cs,h=>by
  unfold zF at h;split at h
  ·cases h
  ·exact z8 _ (xq h)
 | (b,.it _ _ _ _)::r,x,cs,h=>by
  unfold zF at h;split at h
  ·cases h
  ·exact z8 _ (xq h)
 | (b,.obj _)::r,x,cs,h=>by
  unfold zF at h;split at h
  ·cases h
  ·exact z8 _ (xq h)
def atP (S:St) (p:V) (k:List V->Prop):Prop :=
 match p with
 | .ref a=>k a
 | .lit (.pointer (some ⟨b,o,none⟩))=>match zF S.boxes b with
  | some a=>k (a.drop o)
  | none=>False
 | _=>False
theorem qhx {C:Ctx} {S:St} {p:V} {k:List V->Prop} (h:atP S p k) :
  ∃ cs,k cs/\∀ w I x,kS C S w I->V.rep w I p x->∃ b o,x=.pointer (some ⟨b,o,none⟩)/\Has w I cs b o:=by
 unfold atP at h;split at h
 ·rename_i cs;refine⟨cs,h,fun w I x _ a=>?_⟩;simp only [V.rep] at a;obtain⟨b,o,rfl,d⟩:=a;exact⟨b,o,rfl,Has.of_ats d⟩
 ·rename_i b o;split at h
  ·rename_i cs j;refine⟨_,h,fun w I x e a=>?_⟩;simp only [V.rep] at a;have:=(Has.of_box (e.heap.bx _ (xq j))).drop o;simp only [qJ0] at this;exact⟨b,o,a,this⟩
  simp_all
 simp_all
def onL (v:V) (k:Nat) (K:List (List V)->Prop):Prop :=
 match v with
 | .list _ k' es=>k'=k/\K es
 | .lit (.slice none 0 0)=>K []
 | _=>False
theorem Kj {v:V} {k:Nat} {K:List (List V)->Prop} (h:onL v k K) :
  ∃ es,K es/\∀ w I x,V.rep w I v x->∃ a c,x=.slice a es.length c/\es.length<=c/\(es=[]∨∃ b o,a=some ⟨b,o,none⟩/\V.lies w I k es b o):=by
 unfold onL at h;split at h
 ·rename_i own e es;obtain⟨rfl,h⟩:=h;refine⟨es,h,fun w I x d=>?_⟩;simp only [V.rep] at d;simp_all
 ·refine⟨[],h,fun w I x d=>?_⟩;simp only [V.rep] at d;simp_all
 simp_all
def jq:BinOp->Value->Value->Option Value
 | .add,.int k a,.int k' b=>if k=k' then some (.int k (k.wrap (a+b))) else none
 | .sub,.int k a,.int k' b=>if k=k' then some (.int k (k.wrap (a - b))) else none
 | .mul,.int k a,.int k' b=>if k=k' then some (.int k (k.wrap (a * b))) else none
 | .quo,.int k a,.int k' b=>if k=k'/\b ≠ 0 then some (.int k (k.wrap (a.tdiv b))) else none
 | .rem,.int k a,.int k' b=>if k=k'/\b ≠ 0 then some (.int k (a.tmod b)) else none
 | .eql,.int k a,.int k' b=>if k=k' then some (.bool (decide (a=b))) else none
 | .neq,.int k a,.int k' b=>if k=k' then some (.bool (!decide (a=b))) else none
 | .lss,.int k a,.int k' b=>if k=k' then some (.bool (decide (a < b))) else none
 | .leq,.int k a,.int k' b=>if k=k' then some (.bool (decide (a<=b))) else none
 | .gtr,.int k a,.int k' b=>if k=k' then some (.bool (decide (b < a))) else none
 | .geq,.int k a,.int k' b=>if k=k' then some (.bool (decide (b<=a))) else none
 | .and,.int k a,.int k' b=>if k=k' then some (.int k (k.wrap (BitVec.ofInt k.bits a &&& BitVec.ofInt k.bits b).toNat)) else none
 | .or,.int k a,.int k' b=>if k=k' then some (.int k (k.wrap (BitVec.ofInt k.bits a ||| BitVec.ofInt k.bits b).toNat)) else none
 | .xor,.int k a,.int k' b=>if k=k' then some (.int k (k.wrap (BitVec.ofInt k.bits a ^^^ BitVec.ofInt k.bits b).toNat)) else none
 | .shl,.int k a,.int _ b=>if 0<=b then some (.int k (k.wrap (a * 2 ^ min b.toNat k.bits))) else none
 | .shr,.int k a,.int _ b=>if 0<=b then some (.int k (a.fdiv (2 ^ min b.toNat k.bits))) else none
 | .eql,.string a,.string b=>some (.bool (decide (a=b)))
 | .neq,.string a,.string b=>some (.bool (!decide (a=b)))
 | .lss,.string a,.string b=>some (.bool (Op.bytesLess a.data.toList b.data.toList))
 | .leq,.string a,.string b=>some (.bool (Op.bytesLess a.data.toList b.data.toList || decide (a=b)))
 | .gtr,.string a,.string b=>some (.bool (!(Op.bytesLess a.data.toList b.data.toList || decide (a=b))))
 | .geq,.string a,.string b=>some (.bool (!Op.bytesLess a.data.toList b.data.toList))
 | .add,.string a,.string b=>if a.size+b.size<=9223372036854775807 then some (.string (a++b)) else none
 | _,_,_=>none
theorem qng (a b:ByteArray):(a.toList == b.toList)=decide (a=b):=by
 rw [ByteArray.toList_eq,ByteArray.toList_eq,qOg];simp only [beq_iff_eq,decide_eq_true_eq];constructor
 ·intro h;exact qRp (qMc h)
 simp_all
theorem qu5 (a b:ByteArray):Op.bytesLess a.toList b.toList=Op.bytesLess a.data.toList b.data.toList:=by rw [ByteArray.toList_eq,ByteArray.toList_eq]
variable {op:BinOp} {y:Operand}
set_option linter.unusedSimpArgs false in
theorem qp1 {a b v:Value} (h:jq op a b=some v) (w:World) :
  (do eqGuard op t x y a b;binOp op t a b:Sem Value).run P w=.ok v w:=by
 unfold jq at h;split at h <;> first
  | (split at h <;> first
    | (rename_i d;first
      | (obtain⟨rfl,e⟩:=d;obtain rfl:=KL h;simp [eqGuard,binOp,Op.intDiv,e];done)
      | (subst d;obtain rfl:=KL h;simp [eqGuard,binOp,Op.intArith,Op.intCmp,Op.intBits,bne];try (first | rfl | done))
      | (obtain rfl:=KL h;simp [eqGuard,binOp,Op.shift,Int.not_lt.2 d];done)
      | (obtain rfl:=KL h;simp [eqGuard,binOp,Op.stringOp];omega))
    | cases h)
  | (obtain rfl:=KL h;simp [eqGuard,binOp,Op.stringOp,qng,qu5];done)
  | cases h
def sun:UnOp->Value->Option Value
 | .neg,.int k a=>some (.int k (k.wrap (0 - a)))
 | .not,.bool b=>some (.bool (!b))
 | _,_=>none
theorem qu2 {op:UnOp} {a v:Value} (h:sun op a=some v) (w:World):(Op.unary op a).run P w=.ok v w:=by
 unfold sun at h;split at h <;> first
  | (obtain rfl:=KL h;rfl)
  | cases h
def vals:List V->Option (List Value)
 | []=>some []
 | .lit v::r=>(vals r).map (v::·)
 | _::_=>none
theorem jW {w:World} {I:Cells}:∀ {vs:List V} {l xs:List Value},vals vs=some l->V.reps w I vs xs->xs=l
 | [],l,xs,h,hr=>by
  cases xs with
  | nil=>simpa [vals] using h
  | cons x xs=>simp [V.reps] at hr
 | .lit v::r,l,xs,h,hr=>by
  cases xs with
  | nil=>simp [V.reps] at hr
  | cons x xs =>
   simp only [V.reps,V.rep] at hr;cases a:vals r with
   | none=>simp [vals,a] at h
   | some d =>
    simp [vals,a] at h;rw [<-h,hr.1,jW a hr.2]
 | .any::_,_,_,h,_=>by simp [vals] at h
 | .agg _::_,_,_,h,_=>by simp [vals] at h
 | .list _ _ _::_,_,_,h,_=>by simp [vals] at h
 | .ref _::_,_,_,h,_=>by simp [vals] at h
 | .tup _::_,_,_,h,_=>by simp [vals] at h
 | .fn _ _::_,_,_,h,_=>by simp [vals] at h
def qHu:V->Option Value
 | .lit v=>some v
 | .agg vs=>(vals vs).map fun l=>.agg l.toArray
 | _=>none
def Xd:List V->Option (List Value)
 | []=>some []
 | v::r=>(qHu v).bind fun x=>(Xd r).map (x::·)
theorem qo6 {v:V} {k x:Value} (h:qHu v=some k) (a:V.rep w I v x):x=k:=by
 cases v <;> simp only [qHu,simprocAttr] at h
 case lit y=>simp only [V.rep] at a;simp_all
 case agg vs =>
  simp only [qMp] at h;obtain⟨l,d,rfl⟩:=h;simp only [V.rep] at a;obtain⟨e,rfl,a⟩:=a;rw [<-jW d a]
theorem J3 {w:World} {I:Cells}:∀ {vs:List V} {l xs:List Value},Xd vs=some l->V.reps w I vs xs->xs=l
 | [],l,xs,h,hr=>by
  cases xs with
  | nil=>simpa [Xd] using h
  | cons x xs=>simp [V.reps] at hr
 | v::r,l,xs,h,hr=>by
  cases xs with
  | nil=>simp [V.reps] at hr
  | cons x xs =>
   simp only [V.reps] at hr;simp only [Xd,qOi,qMp] at h;obtain⟨k,a,e,d,rfl⟩:=h;rw [qo6 a hr.1,J3 d hr.2]
def VT (P:Program) (op:BinOp) (t:TypeId) (xs a:List Value) (b:Bool):Prop :=
 ∀ x y w,(do eqGuard op t x y (.agg xs.toArray) (.agg a.toArray);binOp op t (.agg xs.toArray) (.agg a.toArray):Sem Value).run P w=.ok (.bool b) w
def qt8 (op:BinOp) (b:Bool):Option Bool:=match op with | .eql=>some b | .neq=>some (!b) | _=>none
def qqu (P:Program) (op:BinOp) (t:TypeId) (b:Bool) (k:V->Prop):Prop :=
 ∃ e v,P.underlying t=some (.slice e)/\qt8 op b=some v/\k (.lit (.bool v))
theorem qfk {e:TypeId} {p:Option Addr} {n c:Nat} {v:Bool} (hu:P.underlying t=some (.slice e)) (h:qt8 op p.isNone=some v) (w:World) :
  (do eqGuard op t x y (.slice p n c) (.slice none 0 0);binOp op t (.slice p n c) (.slice none 0 0):Sem Value).run P w=.ok (.bool v) w:=by
 have a:=run_equal_slice_nil (P:=P) w t e p n c hu;cases op with
 | eql=>obtain rfl:=KL h;simp [eqGuard,binOp,a]
 | neq=>obtain rfl:=KL h;simp [eqGuard,binOp,a]
 | _=>cases h
def qzk (P:Program) (op:BinOp) (t:TypeId) (a b:Bool) (k:V->Prop):Prop :=
 ∃ v,P.underlying t=some .bool/\qt8 op (decide (a=b))=some v/\k (.lit (.bool v))
theorem qtk {a b v:Bool} (hu:P.underlying t=some .bool) (h:qt8 op (decide (a=b))=some v) (w:World) :
  (do eqGuard op t x y (.bool a) (.bool b);binOp op t (.bool a) (.bool b):Sem Value).run P w=.ok (.bool v) w:=by
 have d:=run_equal_bool (P:=P) w t a b hu;cases op with
 | eql=>obtain rfl:=KL h;cases a <;> cases b <;> simp [eqGuard,binOp,d]
 | neq=>obtain rfl:=KL h;cases a <;> cases b <;> simp [eqGuard,binOp,d]
 | _=>cases h
def qIw (P:Program) (op:BinOp) (t:TypeId) (b:Bool) (k:V->Prop):Prop :=
 ∃ a e v,P.underlying t=some (.map a e)/\qt8 op b=some v/\k (.lit (.bool v))
theorem qwx {d e:TypeId} {p:Option Nat} {v:Bool} (hu:P.underlying t=some (.map d e)) (h:qt8 op p.isNone=some v) (w:World) :
  (do eqGuard op t x y (.map p) (.map none);binOp op t (.map p) (.map none):Sem Value).run P w=.ok (.bool v) w:=by
 have a:=run_equal_map_nil (P:=P) w t d e p hu;cases op with
 | eql=>obtain rfl:=KL h;simp [eqGuard,binOp,a]
 | neq=>obtain rfl:=KL h;simp [eqGuard,binOp,a]
 | _=>cases h
def YI:Option Value->Bool
 | some (.slice (some _) _ _)=>true
 | _=>false
def binK (P:Program) (op:BinOp) (t:TypeId) (x y:V) (k:V->Prop):Prop :=
 match x,y with
 | .lit (.slice p _ _),.lit (.slice none 0 0)=>qqu P op t p.isNone k
 | .list o _ es,.lit (.slice none 0 0)=>(es ≠ []∨YI o=true)/\qqu P op t false k
 | .lit (.bool a),.lit (.bool b)=>qzk P op t a b k
 | .lit (.map p),.lit (.map none)=>qIw P op t p.isNone k
 | .lit a,.lit b=>∃ v,jq op a b=some v/\k (.lit v)
 | .agg xs,.agg ys=>∃ l m b,vals xs=some l/\vals ys=some m/\VT P op t l m b/\k (.lit (.bool b))
 | _,_=>False
theorem qtm {C:Ctx} {S:St} {o:Oper} {t':TypeId} (q:o.op=.binOp op t x y t') 
  (h:binK C.P op t (ev S.σ x) (ev S.σ y) k):∃ v,kh C S o v/\k v:=by
 unfold binK at h;split at h
 ·rename_i p n c z D;obtain⟨e,v,hu,H,G⟩:=h;refine⟨_,fun J w I u F=>?_,G⟩;have d:=zL u (x:=x) (by simp [q,Op.operands]);have j:=zL u (x:=y) (by simp [q,Op.operands]);rw [z] at d;rw [D] at j;simp only [V.rep] at d j;simp only [execOp,q,d,j];rw [Sem.run_bind,qfk hu H w];exact yU.same F (by rfl)
 ·rename_i own kk es z D;obtain⟨L,e,v,hu,H,G⟩:=h;refine⟨_,fun J w I u F=>?_,G⟩;have d:=zL u (x:=x) (by simp [q,Op.operands]);have j:=zL u (x:=y) (by simp [q,Op.operands]);rw [z] at d;rw [D] at j;simp only [V.rep] at d j;obtain⟨aa,a,c,N,_,hl⟩:=d;obtain⟨p,rfl⟩:∃ p,a=some p:=by
   rcases L with L | M
   ·obtain⟨b,o',rfl,_⟩:=hl.resolve_left L;simp
   ·unfold YI at M;split at M
    ·have:=aa _ rfl;rw [N] at this;simp_all
    simp_all
  simp only [execOp,q,N,j];rw [Sem.run_bind,qfk hu (p:=some p) H w];exact yU.same F (by rfl)
 ·rename_i a b z D;obtain⟨v,hu,H,G⟩:=h;refine⟨_,fun J w I u F=>?_,G⟩;have d:=zL u (x:=x) (by simp [q,Op.operands]);have j:=zL u (x:=y) (by simp [q,Op.operands]);rw [z] at d;rw [D] at j;simp only [V.rep] at d j;simp only [execOp,q,d,j];rw [Sem.run_bind,qtk hu H w];exact yU.same F (by rfl)
 ·rename_i p z D;obtain⟨kt,e,v,hu,H,G⟩:=h;refine⟨_,fun J w I u F=>?_,G⟩;have d:=zL u (x:=x) (by simp [q,Op.operands]);have j:=zL u (x:=y) (by simp [q,Op.operands]);rw [z] at d;rw [D] at j;simp only [V.rep] at d j;simp only [execOp,q,d,j];rw [Sem.run_bind,qwx hu H w];exact yU.same F (by rfl)
 ·rename_i a b _ _ z D;obtain⟨v,H,G⟩:=h;refine⟨_,fun J w I u F=>?_,G⟩;have d:=zL u (x:=x) (by simp [q,Op.operands]);have j:=zL u (x:=y) (by simp [q,Op.operands]);rw [z] at d;rw [D] at j;simp only [V.rep] at d j;have K:=qp1 (P:=C.P) (t:=t) (x:=x) (y:=y) H w;simp only [execOp,q,d,j];rw [Sem.run_bind,K];exact yU.same F (by rfl)
 ·rename_i xs ys z D;obtain⟨l,m,b,O,Q,Z,G⟩:=h;refine⟨_,fun J w I u F=>?_,G⟩;have d:=zL u (x:=x) (by simp [q,Op.operands]);have j:=zL u (x:=y) (by simp [q,Op.operands]);rw [z] at d;rw [D] at j;simp only [V.rep] at d j;obtain⟨A,U,W⟩:=d;obtain⟨B,X,Y⟩:=j;have R:=jW O W;have T:=jW Q Y;have K:=Z x y w;rw [<-R,<-T] at K;simp only [Array.toArray_toList] at K;simp only [execOp,q,U,X];rw [Sem.run_bind,K];exact yU.same F (by rfl)
 simp_all
def partK (P:Program) (t:TypeId) (cs:List V) (off:Nat) (k:V->Prop):Prop :=
 match xO P t,zK P t with
 | some true,some n=>k (.agg ((cs.drop off).take n))
 | some false,some _=>match cs.drop off with
  | c::_=>k c
  | []=>False
 | _,_=>False
theorem xt {w:World} {I:Cells}:∀ (n:Nat) {vs:List V} {xs:List Value},V.reps w I vs xs->V.reps w I (vs.drop n) (xs.drop n)
 | 0,_,_,h=>h
 | n+1,[],xs,h=>by cases xs with
  | nil=>simp_all
  | cons=>simp [V.reps] at h
 | n+1,v::vs,xs,h=>by cases xs with
  | nil=>simp [V.reps] at h
  | cons x xs=>simp only [V.reps] at h;simpa using xt n h.2
theorem xD {w:World} {I:Cells}:∀ (n:Nat) {vs:List V} {xs:List Value},V.reps w I vs xs->V.reps w I (vs.take n) (xs.take n)
 | 0,_,_,_=>by simp [V.reps]
 | n+1,[],xs,h=>by cases xs with
  | nil=>simp_all
  | cons=>assumption
 | n+1,v::vs,xs,h=>by cases xs with
  | nil=>assumption
  | cons x xs=>simp only [V.reps] at h;simp only [List.take_succ_cons,V.reps];exact⟨h.1,xD n h.2⟩
theorem Yz {off:Nat} (h:partK P t cs off k) :
  ∃ v,k v/\∀ w I (xs:Array Value),V.reps w I cs xs.toList->∃ x,(part t xs off).run P w=.ok x w/\V.rep w I v x:=by
 unfold partK at h;split at h
 ·rename_i n a e;refine⟨_,h,fun w I xs d=>⟨.agg (xs.extract off (off+n)),by simp [part,ZK a,xm e],?_⟩⟩;simp only [V.rep];refine⟨_,rfl,?_⟩;have:(xs.extract off (off+n)).toList=(xs.toList.drop off).take n:=by simp [List.extract_eq_take_drop,qO0]
  rw [this];exact xD n (xt off d)
 ·rename_i a e;split at h
  ·rename_i c r j;refine⟨c,h,fun w I xs d=>?_⟩;have:=xt off d;rw [j] at this;cases hd:xs.toList.drop off with
   | nil=>rw [hd] at this;simp [V.reps] at this
   | cons x p =>
    rw [hd] at this;simp only [V.reps] at this;have o:xs[off]? = some x:=by
     have:=congrArg (·[0]?) hd;simpa [qOm] using this
    exact⟨x,by simp [part,ZK a,o],this.1⟩
  simp_all
 simp_all
def Ky (fn:Fn) (a b:List V) (k:V->Prop):Prop :=
 match Xd a,vals b with
 | some l,some m=>k (.lit (.func fn l.toArray m.toArray))
 | none,some []=>(match fn with | .func g=>k (.fn g a) | _=>False)
 | _,_=>False
theorem qlj {fn:Fn} {a b:List V} {d:V->Prop} (e:∀ v,k v->d v):Ky fn a b k->Ky fn a b d:=by
 unfold Ky;intro h;split at h
 ·simp_all
 ·split at h
  ·simp_all
  omega
 omega
def Xu:Value->Bool
 | .agg _=>false
 | .tuple _=>false
 | _=>true
theorem qv6 {x:Value} (h:Xu x=true):one x:=by cases x <;> simp_all [Xu,one]
def xB:V->Option (List V)
 | .any=>none
 | .tup _=>none
 | .agg vs=>some vs
 | .lit x=>if Xu x then some [.lit x] else none
 | .list a k es=>some [.list a k es]
 | .ref cs=>some [.ref cs]
 | .fn f vs=>some [.fn f vs]
theorem qte {x:Value} (h:Xu x=true):x.cells=#[x]:=by cases x <;> simp_all [Xu,Value.cells]
theorem uz {v:V} {x:Value} (h:xB v=some cs) (e:V.rep w I v x):V.reps w I cs x.cells.toList:=by
 cases v with
 | any=>simp [xB] at h
 | tup j=>simp [xB] at h
 | agg j =>
  simp only [xB,qAo] at h;subst h;simp only [V.rep] at e;obtain⟨p,rfl,e⟩:=e;exact e
 | lit y =>
  simp only [xB] at h;split at h
  ·rename_i n;obtain rfl:=KL h;have d:=e;simp only [V.rep] at d;subst d;rw [qte n];simp only [V.reps,V.rep,and_self]
  ·cases h
 | list a k es =>
  simp only [xB,qAo] at h;subst h;have:x.cells=#[x]:=by
   have d:=e;simp only [V.rep] at d;obtain⟨_,a,c,rfl,_⟩:=d;rfl
  rw [this];simp only [V.reps,and_true];omega
 | ref q =>
  simp only [xB,qAo] at h;subst h;have:x.cells=#[x]:=by
   have d:=e;simp only [V.rep] at d;obtain⟨b,o,rfl,_⟩:=d;rfl
  rw [this];simp only [V.reps,and_true];omega
 | fn f j =>
  simp only [xB,qAo] at h;subst h;have:x.cells=#[x]:=by
   have d:=e;simp only [V.rep] at d;obtain⟨p,rfl,_⟩:=d;rfl
  rw [this];simp only [V.reps,and_true];omega
def Qx (P:Program):List Field->Option (List (Nat × Nat))
 | []=>some []
 | f::r=>match zK P f.type,Qx P r with
  | some n,some l=>some ((f.offset,n)::l)
  | _,_=>none
theorem WY {P:Program} {w:World}:∀ {fs:List Field} {l:List (Nat × Nat)},Qx P fs=some l ->
  (fs.mapM fun f=>do pure (f.offset,<-sizeOf f.type):Sem (List (Nat × Nat))).run P w=.ok l w
 | [],l,h=>by simp [Qx] at h;simp_all
 | f::r,l,h=>by
  unfold Qx at h;split at h
  ·rename_i n j a d;obtain rfl:=KL h;have e:=WY (w:=w) d;simp only [List.mapM_cons,Sem.run_bind,Sem.run_pure,xm a,Result.andThen_ok,e]
  ·cases h
def qx (P:Program) (t:TypeId) (i:Nat):Option (Nat × Nat) :=
 match P.underlying t with
 | some (.struct fs)=>(Qx P fs.toList).bind fun l=>l[i]?
 | some (.array _ e)=>(zK P e).map fun n=>(i * n,n)
 | _=>none
def Xk (P:Program) (t:TypeId) (cells:List V):List (Nat × V)->Option (List V)
 | []=>some cells
 | (i,v)::rest=>match qx P t i,xB v with
  | some (off,n),some cs=>if cs.length=n/\off+n<=cells.length then Xk P t (cells.take off++cs++cells.drop (off+n)) rest else none
  | _,_=>none
theorem Wv (off:Nat):∀ (vs:List Value) (k:Nat) (cs:Array Value),off+k+vs.length<=cs.size ->
  ((vs.zipIdx k).foldl (fun cs (c,j)=>cs.setIfInBounds (off+j) c) cs).toList=cs.toList.take (off+k)++vs++cs.toList.drop (off+k+vs.length)
 | [],k,cs,_=>by simp
 | v::vs,k,cs,h=>by
  rw [List.zipIdx_cons,qQ4];simp only [List.length_cons] at h;rw [Wv off vs (k+1) (cs.setIfInBounds (off+k) v) (by simpa using by omega)];simp only [Array.toList_setIfInBounds,List.length_cons];have a:off+k < cs.toList.length:=by simpa using by omega
  rw [show off+(k+1)=off+k+1 from by omega,List.take_add_one,List.getElem?_set_self a,List.take_set_of_le (w3 _),List.drop_set_of_lt (by omega)];simp [show off+k+1+vs.length=off+k+(vs.length+1) from by omega]
theorem qC {w:World} {I:Cells}:∀ {vs us:List V} {xs a:List Value},V.reps w I vs xs->V.reps w I us a->V.reps w I (vs++us) (xs++a)
 | [],us,[],a,_,h=>by simp_all
 | v::vs,us,x::xs,a,h,h'=>by
  simp only [V.reps] at h;simp only [List.cons_append,V.reps];exact⟨h.1,qC h.2 h'⟩
 | [],_,_::_,_,h,_=>by simp only [V.reps] at h
 | _::_,_,[],_,h,_=>by simp only [V.reps] at h
theorem ZU {P:Program} {t:TypeId} {w:World} {I:Cells} {place:Nat->Option (Nat × Nat)} (k:∀ i p,qx P t i=some p->place i=some p) :
  ∀ {parts:List (Nat × V)} {vals:List (Nat × Value)} {cells out:List V} {arr:Array Value},Xk P t cells parts=some out->V.reps w I cells arr.toList ->
   parts.map (·.1)=vals.map (·.1)->V.reps w I (parts.map (·.2)) (vals.map (·.2))->∃ arr',Instr.fill place arr vals=some arr'/\V.reps w I out arr'.toList
 | [],[],cells,out,arr,h,hr,_,_=>by
  simp only [Xk,qAo] at h;subst h;exact⟨arr,rfl,hr⟩
 | (i,v)::ps,(i',x)::vs,cells,out,arr,h,hr,a,hx=>by
  simp only [z7,qKi] at a;obtain⟨rfl,a⟩:=a;simp only [z7,V.reps] at hx;unfold Xk at h;split at h
  ·rename_i off n d q u;split at h
   ·rename_i F;have e:=uz u hx.1;have y:x.cells.size=n:=by have:=qM e;simp at this;omega
    have G:arr.size=cells.length:=by have:=qM hr;simpa using this
    have A:=Wv off x.cells.toList 0 arr (by simp_all);have C:((x.cells.zipIdx).foldl (fun d (c,j)=>d.setIfInBounds (off+j) c) arr).toList=arr.toList.take off++x.cells.toList++arr.toList.drop (off+n):=by
     rw [<-qPt,qQj,A];simp [y]
    have z:V.reps w I (cells.take off++d++cells.drop (off+n)) ((x.cells.zipIdx).foldl (fun d (c,j)=>d.setIfInBounds (off+j) c) arr).toList:=by
     rw [C];exact qC (qC (xD off hr) e) (xt (off+n) hr)
    obtain⟨arr',D,o⟩:=ZU k h z a hx.2;refine⟨arr',?_,o⟩;unfold Instr.fill;simp only [k i _ q];simp_all
   ·cases h
  ·cases h
 | [],_::_,_,_,_,_,_,a,_=>by simp at a
 | _::_,[],_,_,_,_,_,a,_=>by simp at a
def buildK (P:Program) (t:TypeId) (parts:List (Nat × V)) (k:V->Prop):Prop :=
 match kG P t with
 | some z=>∃ a,Xk P t (z.map .lit) parts=some a/\k (.agg a)
 | none=>False
theorem xg {w:World} {I:Cells}:∀ (z:List Value),V.reps w I (z.map .lit) z
 | []=>by simp [V.reps]
 | x::z=>by simp only [z7,V.reps,V.rep];exact⟨trivial,xg z⟩
theorem qp2 {z:List Value} {parts:List (Nat × V)} {vals:Array (Nat × Value)} 
  (J:kG P t=some z) (h:Xk P t (z.map .lit) parts=some cs) (a:(∃ i,(qx P t i).isSome)∨P.underlying t=some (.struct #[])) (o:parts.map (·.1)=vals.toList.map (·.1)) (A:V.reps w I (parts.map (·.2)) (vals.toList.map (·.2))) :
  ∃ x,(Instr.build t vals).run P w=.ok x w/\V.rep w I (.agg cs) x:=by
 obtain⟨v,y,H⟩:=X8 (w:=w) J;have u:V.reps w I (z.map .lit) v.cells.toList:=by rw [H];exact xg z
 rcases a with a | hd
 rotate_left
 ·have q:((#[]:Array Field).mapM fun f=>do pure (f.offset,<-sizeOf f.type):Sem (Array (Nat × Nat))).run P w=.ok #[] w:=by simp [Sem.run_pure]
  obtain⟨d,j,C⟩:=ZU (place:=((#[]:Array (Nat × Nat))[·]?)) (fun i p k=>by simp [qx,hd,Qx] at k) h u o A;refine⟨.agg d,?_,by simp only [V.rep];simp_all⟩;unfold Instr.build;simp only [Sem.run_bind,y,run_underlying hd,Result.andThen_ok,q,j,Sem.run_pure]
 obtain⟨K,a⟩:=a;unfold qx at a;split at a
 ·rename_i D hd;cases F:Qx P D.toList with
  | none=>simp_all
  | some l =>
   have q:(D.mapM fun f=>do pure (f.offset,<-sizeOf f.type):Sem (Array (Nat × Nat))).run P w=.ok l.toArray w:=by
    have:=WY (w:=w) F;rw [qRk];simp only [Sem.run_map,this,Result.andThen_ok]
   obtain⟨d,j,C⟩:=ZU (place:=(l.toArray[·]?)) (fun i p k=>by simpa [qx,hd,F] using k) h u o A;refine⟨.agg d,?_,by simp only [V.rep];simp_all⟩;unfold Instr.build;simp only [Sem.run_bind,y,run_underlying hd,Result.andThen_ok,q,j,Sem.run_pure]
 ·rename_i n e hd;cases G:zK P e with
  | none=>simp_all
  | some m =>
   obtain⟨d,j,C⟩:=ZU (place:=fun i=>some (i * m,m)) (fun i p k=>by simpa [qx,hd,G] using k) h u o A;refine⟨.agg d,?_,by simp only [V.rep];simp_all⟩;unfold Instr.build;simp only [Sem.run_bind,y,run_underlying hd,Result.andThen_ok,xm G,j,Sem.run_pure]
 simp_all
theorem qtr {vs:List V} {b o:Nat} (h:V.ats w I vs b o) (n:Nat):V.ats w I (vs.drop n) b (o+n):=by
 by_cases a:n<=vs.length
 ·exact qz0 h n a
 ·rw [qFs (by omega)];simp only [V.ats]
theorem qra {k:Nat} {es:List (List V)} {b o:Nat} (h:V.lies w I k es b o) (n:Nat) (a:n<=es.length):V.lies w I k (es.drop n) b (o+n * k):=by
 have:=ur (w:=w) (I:=I) (k:=k) (es:=es.take n) (fs:=es.drop n) (b:=b) (o:=o);simp_all
theorem qq9 {k:Nat} {es:List (List V)} {b o:Nat} (h:V.lies w I k es b o) (n:Nat):V.lies w I k (es.take n) b o:=by
 have:=ur (w:=w) (I:=I) (k:=k) (es:=es.take n) (fs:=es.drop n) (b:=b) (o:=o);simp_all
def shiftP (v:V) (off:Nat) (k:V->Prop):Prop :=
 match v with
 | .ref cs=>k (.ref (cs.drop off))
 | .lit (.pointer (some ⟨b,o,none⟩))=>k (.lit (.pointer (some ⟨b,o+off,none⟩)))
 | _=>False
theorem WS {v:V} {off:Nat} (h:shiftP v off k) :
  ∃ u,k u/\∀ w I x,V.rep w I v x->∃ b o,x=.pointer (some ⟨b,o,none⟩)/\V.rep w I u (.pointer (some ⟨b,o+off,none⟩)):=by
 unfold shiftP at h;split at h
 ·refine⟨_,h,fun w I x a=>?_⟩;simp only [V.rep] at a;obtain⟨b,o,rfl,d⟩:=a;refine⟨b,o,rfl,?_⟩;simp only [V.rep];exact⟨b,o+off,rfl,qtr d off⟩
 ·refine⟨_,h,fun w I x a=>?_⟩;simp only [V.rep] at a;subst a;exact⟨_,_,rfl,by rfl⟩
 simp_all
def Le (r v:V):Prop:=∀ w I x,V.rep w I r x->V.rep w I v x
theorem qcc {w:World} {I:Cells}:∀ {ls xs:List Value},V.reps w I (ls.map .lit) xs->xs=ls
 | [],[],_=>rfl
 | [],_::_,h=>by simp [V.reps] at h
 | _::_,[],h=>by simp [V.reps] at h
 | a::l,x::xs,h=>by
  simp only [z7,V.reps,V.rep] at h;rw [h.1,qcc h.2]
theorem Le.refl (v:V):Le v v:=fun _ _ _ h=>h
theorem Le.list (a:Option Value) (k:Nat) (es:List (List V)):Le (.list a k es) (.list none k es):=fun w I x h=>by
 simp only [V.rep] at h ⊢;simp_all
theorem Le.any (v:V):Le v .any:=fun _ _ _ _=>by simp only [V.rep]
def zg (P:Program) (g:FuncId):Bool :=
 match P.funcs[g]? with
 | some fn => !(fn.name == "runtime.NumGoroutine") && fn.body.isSome
 | none=>false
def OkV (P:Program) (g:FuncId) (args:List V) (v:V):Prop:=Ok P g args [] fun r _ _=>Le r v
def bnd (x:Option V) (d:Nat) (K:Nat->Prop):Prop :=
 match x with
 | none=>K d
 | some (.lit (.int _ j))=>0<=j/\K j.toNat
 | some _=>False
def onS (v:V) (n:Nat) (a:List (List V)->Prop) (d:Nat->Nat->Nat->Nat->Prop):Prop :=
 match v with
 | .lit (.slice (some ⟨b,o,none⟩) l c)=>d b o l c
 | v=>onL v n a
theorem YD {v:V} {n:Nat} {a:List (List V)->Prop} {d:Nat->Nat->Nat->Nat->Prop} (h:onS v n a d):onL v n a∨∃ b o l c,v=.lit (.slice (some ⟨b,o,none⟩) l c)/\d b o l c:=by
 unfold onS at h;split at h
 ·exact .inr ⟨_,_,_,_,rfl,h⟩
 simp_all
def sliceK (P:Program) (t:TypeId) (v:V) (j a d:Option V) (k:V->Prop):Prop :=
 match P.underlying t,v with
 | some .string,.lit (.string s)=>d=none/\bnd a s.size fun h=>bnd j 0 fun l=>l<=h/\h<=s.size/\k (.lit (.string (s.extract l h)))
 | some (.slice e),v=>match zK P e with
  | some n=>onS v n (fun es=>bnd a es.length fun h=>bnd j 0 fun l=>l<=h/\h<=es.length/\(∀ x,d=some x->a.isSome/\bnd d 0 fun m=>h<=m/\m<=es.length)/\k (.list none n ((es.drop l).take (h - l))))
    fun b o p c=>bnd d c fun m=>bnd a p fun h=>bnd j 0 fun l=>l<=h/\h<=m/\m<=c/\(d.isSome=true->a.isSome=true)/\k (.lit (.slice (some ⟨b,if m=l then o else o+l * n,none⟩) (h - l) (m - l)))
  | none=>False
 | some (.array N e),.lit (.pointer (some ⟨b,o,none⟩))=>match zK P e with
  | some n=>bnd d N fun m=>bnd a N fun h=>bnd j 0 fun l=>l<=h/\h<=m/\m<=N/\(d.isSome=true->a.isSome=true)/\k (.lit (.slice (some ⟨b,if m=l then o else o+l * n,none⟩) (h - l) (m - l)))
  | none=>False
 | _,_=>False
def lenK (P:Program) (t:TypeId) (v:V) (k:V->Prop):Prop :=
 match P.underlying t,v with
 | some .string,.lit (.string s)=>k (.lit (.int .i64 s.size))
 | some (.slice e),v=>match zK P e with
  | some n=>onS v n (fun es=>k (.lit (.int .i64 es.length))) fun _ _ l _=>k (.lit (.int .i64 l))
  | none=>False
 | _,_=>False
def capK (P:Program) (t:TypeId) (v:V) (k:V->Prop):Prop :=
 match P.underlying t,v with
 | some (.slice _),.lit (.slice _ _ c)=>k (.lit (.int .i64 c))
 | _,_=>False
def convK (P:Program) (src dst:TypeId) (v:V) (k:V->Prop):Prop :=
 match P.underlying src,P.underlying dst,v with
 | some _,some (.int kk),.lit (.int _ n)=>k (.lit (.int kk (kk.wrap n)))
 | some _,some .string,.lit (.string s)=>k (.lit (.string s))
 | _,_,_=>False
def idxAddrK (P:Program) (t:TypeId) (v i:V) (k:V->Prop):Prop :=
 match P.underlying t,i with
 | some (.slice e),.lit (.int _ j)=>match zK P e with
  | some n=>onS v n (fun es=>0<=j/\j < es.length/\k (.ref (es.getD j.toNat []))) fun b o l _=>0<=j/\j < l/\k (.lit (.pointer (some ⟨b,o+j.toNat * n,none⟩)))
  | none=>False
 | some (.array len e),.lit (.int _ j)=>match zK P e with
  | some n=>0<=j/\j < len/\shiftP v (j.toNat * n) k
  | none=>False
 | _,_=>False
def idxK (P:Program) (t:TypeId) (v i:V) (k:V->Prop):Prop :=
 match P.underlying t,v,i with
 | some .string,.lit (.string s),.lit (.int _ j)=>0<=j/\j < s.size/\k (.lit (.int .u8 (s.data.toList.getD j.toNat 0).toNat))
 | some (.array len e),.agg cs,.lit (.int _ j)=>match zK P e with
  | some n=>0<=j/\j < len/\partK P e cs (j.toNat * n) k
  | none=>False
 | _,_,_=>False
def fld (P:Program) (s:TypeId) (f:Nat):Option (Nat × TypeId) :=
 match P.underlying s with
 | some (.struct fs)=>(fs[f]?).map fun fd=>(fd.offset,fd.type)
 | _=>none
theorem qgi {s:TypeId} {f off:Nat} (h:fld P s f=some (off,t)):∃ fs fd,P.underlying s=some (.struct fs)/\fs[f]? = some fd/\fd.offset=off/\fd.type=t:=by
 unfold fld at h;split at h
 ·simp_all
 ·cases h
def qvl (P:Program):Bool:=(List.range ntypes).all fun t=>(List.range (P.cellsOf t)).all fun o=>(byteOfCell P P.depth t o).isSome
def fz (P:Program) (s:TypeId) (f:Nat):Bool :=
 match P.underlying s with
 | some (.struct fs)=>match fs[f]? with
  | some fd=>fd.offset == 0 && fd.byteOffset == 0
  | none=>false
 | _=>false
def zeroP (P:Program) (a:Bx) (s:TypeId) (f:Nat) (v:V) (k:V->Prop):Prop :=
 match v with
 | .lit (.pointer (some ⟨b,o,none⟩))=>match zF a b with
  | some _=>(qvl P=true/\fz P s f=true)/\k (.lit (.pointer (some ⟨b,o,none⟩)))
  | none=>False
 | _=>False
def fieldAddrK (P:Program) (a:Bx) (s:TypeId) (f:Nat) (v:V) (k:V->Prop):Prop :=
 match fld P s f with
 | some (off,t)=>match zK P t with
  | some (_+1)=>shiftP v off k
  | some 0=>zeroP P a s f v k
  | none=>False
 | none=>False
def qyn (P:Program) (t:TypeId):Bool :=
 match P.underlying t with
 | some (.struct fs)=>fs.isEmpty
 | _=>false
def yo (P:Program) (t:TypeId):Bool:=(qx P t 0).isSome || qyn P t
theorem qdd (h:yo P t=true):(∃ i,(qx P t i).isSome)∨P.underlying t=some (.struct #[]):=by
 unfold yo at h;rcases(qPn _ _).mp h with h | h
 ·exact .inl ⟨0,h⟩
 ·unfold qyn at h;split at h
  ·simp_all
  ·cases h
def fieldK (P:Program) (s:TypeId) (f:Nat) (v:V) (k:V->Prop):Prop :=
 match fld P s f,v with
 | some (off,t),.agg cs=>partK P t cs off k
 | _,_=>False
def callK (P:Program) (f:V) (args:List V) (k:V->Prop):Prop :=
 match f with
 | .lit (.func (.func g) first cap)=>zg P g=true/\∃ v,OkV P g (first.toList.map .lit++args++cap.toList.map .lit) v/\k v
 | _=>False
def nilK (v:V) (k:V->Prop):Prop :=
 match v with
 | .lit (.pointer (some a))=>k (.lit (.pointer (some a)))
 | .ref cs=>k (.ref cs)
 | .lit (.func (.func g) first cap)=>k (.lit (.func (.func g) first cap))
 | _=>False
def detF (P:Program) (S:St) (o:Oper) (k:V->Prop):Prop :=
 match o.op with
 | .move x=>k (ev S.σ x)
 | .assign x=>k (ev S.σ x)
 | .pick c a b=>match ev S.σ c with
  | .lit (.bool t)=>k (if t=true then ev S.σ a else ev S.σ b)
  | _=>False
 | .load t a=>atP S (ev S.σ a) fun d=>loadK P t d k
 | .fieldAddr s x f=>fieldAddrK P [] s f (ev S.σ x) k
 | .field s x f=>fieldK P s f (ev S.σ x) k
 | .indexAddr t x i=>idxAddrK P t (ev S.σ x) (ev S.σ i) k
 | .index t x i=>idxK P t (ev S.σ x) (ev S.σ i) k
 | .binOp op t x y _=>binK P op t (ev S.σ x) (ev S.σ y) k
 | .unOp op _ x=>match ev S.σ x with
  | .lit a=>∃ v,sun op a=some v/\k (.lit v)
  | _=>False
 | .convert src dst x=>convK P src dst (ev S.σ x) k
 | .extract t i=>match ev S.σ t with
  | .tup vs=>match vs[i]? with
   | some v=>k v
   | none=>False
  | _=>False
 | .slice t x lo hi mx=>sliceK P t (ev S.σ x) (lo.map (ev S.σ)) (hi.map (ev S.σ)) (mx.map (ev S.σ)) k
 | .build t parts=>yo P t=true/\buildK P t (parts.toList.map fun p=>(p.1,ev S.σ p.2)) k
 | .makeFunc fn first captured=>Ky fn (first.toList.map (ev S.σ)) (captured.toList.map (ev S.σ)) k
 | .nilCheck x=>nilK (ev S.σ x) k
 | .call c=>match c.callee with
  | .builtin .len=>match c.args.toList,c.argTypes.toList with
   | [x],[t]=>lenK P t (ev S.σ x) k
   | _,_=>False
  | .builtin .cap=>match c.args.toList,c.argTypes.toList with
   | [x],[t]=>capK P t (ev S.σ x) k
   | _,_=>False
  | .builtin .max=>match c.args.toList.map (ev S.σ) with
   | [.lit (.int kk x),.lit (.int _ y)]=>k (.lit (.int kk (if y > x then y else x)))
   | _=>False
  | .builtin .min=>match c.args.toList.map (ev S.σ) with
   | [.lit (.int kk x),.lit (.int _ y)]=>k (.lit (.int kk (if y < x then y else x)))
   | _=>False
  | .value f=>callK P (ev S.σ f) (c.args.toList.map (ev S.σ)) k
  | _=>False
 | _=>False
section
variable {C:Ctx} {S:St} {o:Oper} {k:V->Prop}
variable {x:Operand}
theorem qg1 (d:o.op=.move x∨o.op=.assign x) (h:k (ev S.σ x)):∃ v,kh C S o v/\k v:=by
 refine⟨_,fun a w I e j=>?_,h⟩;have r:=zL e (x:=x) (by rcases d with d | d <;> simp [d,Op.operands]);rcases d with d | d <;> (simp only [execOp,d];exact yU.same j r)
theorem qyw {c y:Operand} {t:Bool} (d:o.op=.pick c x y) (hc:ev S.σ c=.lit (.bool t)) (h:k (if t=true then ev S.σ x else ev S.σ y)):∃ v,kh C S o v/\k v:=by
 refine⟨_,fun a w I e j=>?_,h⟩;have r0:=zL e (x:=c) (by simp [d,Op.operands]);have n:=zL e (x:=x) (by simp [d,Op.operands]);have p:=zL e (x:=y) (by simp [d,Op.operands]);rw [hc] at r0;simp only [V.rep] at r0;simp only [execOp,d,r0,asBool];cases t
 ·exact yU.same j p
 ·exact yU.same j n
variable {t:TypeId}
theorem qyx (j:o.op=.load t x) (h:atP S (ev S.σ x) fun cs=>loadK C.P t cs k):∃ v,kh C S o v/\k v:=by
 obtain⟨cs,n,p⟩:=qhx (C:=C) h;obtain⟨v,A,q⟩:=YO n;refine⟨v,fun a w I u d=>?_,A⟩;obtain⟨b,off,e,z⟩:=p w I _ d (zL u (x:=x) (by simp [j,Op.operands]));obtain⟨y,F,D⟩:=q w I b off z;simp only [execOp,j,e,Instr.loadAt,Instr.sureAddr];simp only [Sem.run_bind,Sem.run_pure,Result.andThen_ok,F];exact yU.same d D
variable {P:Program} {w:World}
theorem qjj {b o e n:Nat} (d:w.shape? b=some (e,n)) (p:qvl P=true) (k:e < ntypes):∃ x,(byteOf ⟨b,o,none⟩).run P w=.ok x w:=by
 have h:=qNh.1 p e (qHj.2 k);by_cases a:P.cellsOf e=0
 ·exact⟨0,by simp [byteOf,noView,viewAt,shape,Sem.run,d,a,program]⟩
 ·have j:=qNh.1 h (o % P.cellsOf e) (qHj.2 (qPf _ (by omega)));obtain⟨y,q⟩:=qPw.1 j;exact⟨o / P.cellsOf e * P.bytesOf e+y,by simp [byteOf,noView,viewAt,shape,Sem.run,d,a,q,program]⟩
theorem Jm {b o e n:Nat} {fd:Field} (h:w.shape? b=some (e,n)) (j:qvl P=true) (a:e < ntypes) (p:zK P fd.type=some 0) (d:fd.offset=0) (hb:fd.byteOffset=0):(fieldPlace ⟨b,o,none⟩ fd).run P w=.ok ⟨b,o,none⟩ w:=by
 obtain⟨x,k⟩:=qjj (o:=o) h j a;unfold fieldPlace partAt;rw [d,hb];simp only [Sem.run_bind,xm p,Result.andThen_ok,Nat.add_zero,if_true,k,Sem.run_pure]
theorem Xl {s:TypeId} {f:Nat} (p:o.op=.fieldAddr s x f) {A:Bx} (G:∀ b cs,zF A b=some cs->zF S.boxes b=some cs) (h:fieldAddrK C.P A s f (ev S.σ x) k):∃ v,kh C S o v/\k v:=by
 unfold fieldAddrK at h;split at h
 ·rename_i off t H;obtain⟨O,fd,hd,y,rfl,rfl⟩:=qgi H;split at h
  ·rename_i n z;obtain⟨u,J,hu⟩:=WS h;refine⟨u,fun a w I q j=>?_,J⟩;obtain⟨b,off,e,d⟩:=hu w I _ (zL q (x:=x) (by simp [p,Op.operands]));simp only [execOp,p,e,Instr.fieldAt,Instr.sureAddr,fieldPlace];simp only [Sem.run_bind,Sem.run_pure,Result.andThen_ok,run_underlying hd,y,xm z,Nat.add_one_ne_zero,if_false,Sem.run_ite,Addr.add_lit];exact yU.same j d
  ·rename_i z;unfold zeroP at h;split at h
   ·rename_i b M L;split at h
    ·rename_i cs F;refine⟨_,fun a w I q j=>?_,h.2⟩;have d:=zL q (x:=x) (by simp [p,Op.operands]);rw [L] at d;simp only [V.rep] at d;obtain⟨arr,e,N,_⟩:=j.heap.bx _ (xq (G _ _ F));have K:w.shape? b=some (e.1,arr.size):=by unfold World.shape?; rw [N]
     have D:fd.offset=0/\fd.byteOffset=0:=by
      have:=h.1.2;unfold fz at this;rw [hd] at this;simp only [y,k7,beq_iff_eq] at this;exact this
     simp only [execOp,p,d,Instr.fieldAt,Instr.sureAddr];simp only [Sem.run_bind,Sem.run_pure,Result.andThen_ok,run_underlying hd,y,Jm (o:=M) K h.1.1 e.2 z D.1 D.2];exact yU.same j (by rfl)
    simp_all
   simp_all
  simp_all
 simp_all
theorem qso {s:TypeId} {f:Nat} (d:o.op=.field s x f) (h:fieldK C.P s f (ev S.σ x) k):∃ v,kh C S o v/\k v:=by
 unfold fieldK at h;split at h
 ·rename_i off t J q D;obtain⟨K,fd,hd,p,rfl,rfl⟩:=qgi q;obtain⟨v,u,A⟩:=Yz h;refine⟨v,fun a w I j n=>?_,u⟩;have r:=zL j (x:=x) (by simp [d,Op.operands]);rw [D] at r;simp only [V.rep] at r;obtain⟨H,e,F⟩:=r;obtain⟨y,G,z⟩:=A w I H F;simp only [execOp,d,e,Instr.field,asAgg];simp only [Sem.run_bind,Sem.run_pure,Result.andThen_ok,run_underlying hd,p,G];exact yU.same n z
 simp_all
theorem qg2 {i:Operand} (p:o.op=.indexAddr t x i) (h:idxAddrK C.P t (ev S.σ x) (ev S.σ i) k):∃ v,kh C S o v/\k v:=by
 unfold idxAddrK at h;split at h
 ·rename_i e O j hd F;split at h
  ·rename_i n G;rcases YD h with h | ⟨b,off,T,c,N,z,y,D⟩
   rotate_left
   ·refine⟨_,fun a w I q A=>?_,D⟩;have rx:=zL q (x:=x) (by simp [p,Op.operands]);have d:=zL q (x:=i) (by simp [p,Op.operands]);rw [N] at rx;rw [F] at d;simp only [V.rep] at rx d;simp only [execOp,p,rx,d,Instr.indexAt,asIntOf];simp only [Sem.run_bind,Sem.run_pure,Result.andThen_ok,run_underlying hd,z,y,and_self,if_true,xm G,Addr.add_lit];exact yU.same A (by rfl)
   obtain⟨es,⟨z,y,D⟩,L⟩:=Kj h;refine⟨_,fun a w I q A=>?_,D⟩;obtain⟨P,c,ex,R,H⟩:=L w I _ (zL q (x:=x) (by simp [p,Op.operands]));have d:=zL q (x:=i) (by simp [p,Op.operands]);rw [F] at d;simp only [V.rep] at d;rcases H with rfl | ⟨b,off,rfl,H⟩
   ·simp at y;omega
   ·have J:j.toNat < es.length:=by omega
    obtain⟨K,Q⟩:=qft H j.toNat es[j.toNat] (yb J);simp only [execOp,p,ex,d,Instr.indexAt,asIntOf];simp only [Sem.run_bind,Sem.run_pure,Result.andThen_ok,run_underlying hd,z,y,and_self,if_true,xm G,Addr.add_lit];refine yU.same A ?_;simp only [V.rep,List.getD,yb J,Option.getD_some];exact⟨b,_,rfl,K⟩
  simp_all
 ·rename_i len e O j hd F;split at h
  ·rename_i n G;obtain⟨z,y,h⟩:=h;obtain⟨u,D,hu⟩:=WS h;refine⟨u,fun a w I q A=>?_,D⟩;obtain⟨b,off,ex,M⟩:=hu w I _ (zL q (x:=x) (by simp [p,Op.operands]));have d:=zL q (x:=i) (by simp [p,Op.operands]);rw [F] at d;simp only [V.rep] at d;simp only [execOp,p,ex,d,Instr.indexAt,asIntOf,Instr.sureAddr];simp only [Sem.run_bind,Sem.run_pure,Result.andThen_ok,run_underlying hd,z,y,and_self,if_true,xm G,Addr.add_lit];exact yU.same A M
  simp_all
 simp_all
theorem qE1 {i:Operand} (p:o.op=.index t x i) (h:idxK C.P t (ev S.σ x) (ev S.σ i) k):∃ v,kh C S o v/\k v:=by
 unfold idxK at h;split at h
 ·rename_i s P j hd F A;obtain⟨u,G,D⟩:=h;refine⟨_,fun a w I q z=>?_,D⟩;have rx:=zL q (x:=x) (by simp [p,Op.operands]);have d:=zL q (x:=i) (by simp [p,Op.operands]);rw [A] at d;rw [F] at rx;simp only [V.rep] at d rx;have H:j.toNat < s.size:=by omega
  simp only [execOp,p,rx,d,Instr.index,asIntOf];simp only [Sem.run_bind,Sem.run_pure,Result.andThen_ok,run_underlying hd,u,if_true,getElem?_pos s j.toNat H];refine yU.same z ?_;simp only [V.rep];congr 2;have:s.data.toList.getD j.toNat 0=s[j.toNat]:=by
   have J:j.toNat < s.data.toList.length:=by simpa using H
   simp only [List.getD,yb J,Option.getD_some];rfl
  rw [this]
 ·rename_i len e R P j hd F A;split at h
  ·rename_i n K;obtain⟨u,G,h⟩:=h;obtain⟨v,D,M⟩:=Yz h;refine⟨v,fun a w I q z=>?_,D⟩;have rx:=zL q (x:=x) (by simp [p,Op.operands]);have d:=zL q (x:=i) (by simp [p,Op.operands]);rw [A] at d;rw [F] at rx;simp only [V.rep] at d rx;obtain⟨Q,ex,N⟩:=rx;obtain⟨y,O,L⟩:=M w I Q N;simp only [execOp,p,ex,d,Instr.index,asIntOf];simp only [Sem.run_bind,Sem.run_pure,Result.andThen_ok,run_underlying hd,u,G,and_self,if_true,xm K,O];exact yU.same z L
  simp_all
 simp_all
theorem qJq {op:UnOp} {a v:Value} (d:o.op=.unOp op t x) (p:ev S.σ x=.lit a) (n:sun op a=some v) (h:k (.lit v)):∃ v,kh C S o v/\k v:=by
 refine⟨_,fun q w I e j=>?_,h⟩;have r:=zL e (x:=x) (by simp [d,Op.operands]);rw [p] at r;simp only [V.rep] at r;simp only [execOp,d,r];rw [Sem.run_bind,qu2 n];exact yU.same j (by rfl)
theorem qg4 {src dst:TypeId} (a:o.op=.convert src dst x) (h:convK C.P src dst (ev S.σ x) k):∃ v,kh C S o v/\k v:=by
 unfold convK at h;split at h
 ·rename_i d y z n p hd q;refine⟨_,fun u w I e j=>?_,h⟩;have r:=zL e (x:=x) (by simp [a,Op.operands]);rw [q] at r;simp only [V.rep] at r;simp only [execOp,a,r,convert];simp only [Sem.run_bind,run_underlying p,run_underlying hd,Result.andThen_ok,Conv.intToInt,Sem.run_pure];exact yU.same j (by rfl)
 ·rename_i d s p hd q;refine⟨_,fun u w I e j=>?_,h⟩;have r:=zL e (x:=x) (by simp [a,Op.operands]);rw [q] at r;simp only [V.rep] at r;simp only [execOp,a,r,convert];simp only [Sem.run_bind,run_underlying p,run_underlying hd,Result.andThen_ok,Sem.run_pure];exact yU.same j (by rfl)
 simp_all
theorem qg3 {t:Operand} {i:Nat} {vs:List V} {v:V} (n:o.op=.extract t i) (D:ev S.σ t=.tup vs) (p:vs[i]? = some v) (h:k v):∃ v,kh C S o v/\k v:=by
 refine⟨v,fun G w I y z=>?_,h⟩;have r:=zL y (x:=t) (by simp [n,Op.operands]);rw [D] at r;simp only [V.rep] at r;obtain⟨d,e,q⟩:=r;have A:=qM q;have a:i < d.toList.length:=by rw [A];exact(qNj.1 p).1
 obtain⟨H,j,u⟩:=Kb q i _ (yb a);rw [p] at j;obtain rfl:=KL j;have F:d[i]? = some d.toList[i]:=by simp at a;simp [a]
 simp only [execOp,n,e,Instr.extract,F];simp only [Sem.run_bind,Sem.run_pure,Result.andThen_ok];exact yU.same z u
variable {c:Call}
theorem qE0 (d:o.op=.call c) (hc:c.callee=.builtin .len) (z:c.args.toList=[x]) (D:c.argTypes.toList=[t]) (h:lenK C.P t (ev S.σ x) k):∃ v,kh C S o v/\k v:=by
 have a:c.args=#[x]:=by rw [<-qA3 (xs:=c.args),z]
 have u:c.argTypes=#[t]:=by rw [<-qA3 (xs:=c.argTypes),D]
 unfold lenK at h;split at h
 ·rename_i s hd G;refine⟨_,fun y w I j p=>?_,h⟩;have r:=zL j (x:=x) (by simp [d,Op.operands,Call.operands,a]);rw [G] at r;simp only [V.rep] at r;simp only [execOp,d,resolve,hc,a,u];simp [invoke,builtin,Builtin.len_,r,run_underlying hd];exact yU.same p (by rfl)
 ·rename_i e v hd;split at h
  ·rename_i n L;rcases YD h with h | ⟨b,off,M,J,F,q⟩
   rotate_left
   ·refine⟨_,fun y w I j p=>?_,q⟩;have r:=zL j (x:=x) (by simp [d,Op.operands,Call.operands,a]);rw [F] at r;simp only [V.rep] at r;simp only [execOp,d,resolve,hc,a,u];simp [invoke,builtin,Builtin.len_,r,run_underlying hd];exact yU.same p (by rfl)
   obtain⟨es,q,A⟩:=Kj h;refine⟨_,fun y w I j p=>?_,q⟩;obtain⟨H,K,ex,_,_⟩:=A w I _ (zL j (x:=x) (by simp [d,Op.operands,Call.operands,a]));simp only [execOp,d,resolve,hc,a,u];simp [invoke,builtin,Builtin.len_,ex,run_underlying hd];exact yU.same p (by rfl)
  simp_all
 simp_all
theorem qE2 (j:o.op=.call c) (hc:c.callee=.builtin .cap) (u:c.args.toList=[x]) (y:c.argTypes.toList=[t]) (h:capK C.P t (ev S.σ x) k):∃ v,kh C S o v/\k v:=by
 have d:c.args=#[x]:=by rw [<-qA3 (xs:=c.args),u]
 have z:c.argTypes=#[t]:=by rw [<-qA3 (xs:=c.argTypes),y]
 unfold capK at h;split at h
 ·rename_i e a n F hd A;refine⟨_,fun D w I p q=>?_,h⟩;have r:=zL p (x:=x) (by simp [j,Op.operands,Call.operands,d]);rw [A] at r;simp only [V.rep] at r;simp only [execOp,j,resolve,hc,d,z];simp [invoke,builtin,Builtin.cap_,r,run_underlying hd];exact yU.same q (by rfl)
 simp_all
theorem Vf {F G:IntKind} {x y:Int} (d:o.op=.call c) (u:Bool) (hc:c.callee=.builtin (if u then .max else .min)) (n:c.args.toList.map (ev S.σ)=[.lit (.int F x),.lit (.int G y)])
  (h:k (.lit (.int F (if u then (if y > x then y else x) else (if y < x then y else x))))):∃ v,kh C S o v/\k v:=by
 refine⟨_,fun H w I z A=>?_,h⟩;obtain⟨p,q,D⟩:∃ p q,c.args.toList=[p,q]:=by
  match J:c.args.toList with
  | [p,q]=>simp
  | []=>simp_all
  | [_]=>simp_all
  | _::_::_::_=>simp_all
 have a:c.args=#[p,q]:=by rw [<-qA3 (xs:=c.args),D]
 simp only [D,z7,Jx,qKi,and_true] at n;have e:=zL z (x:=p) (by simp [d,Op.operands,Call.operands,a]);have j:=zL z (x:=q) (by simp [d,Op.operands,Call.operands,a]);rw [n.1] at e;rw [n.2] at j;simp only [V.rep] at e j;cases u
 ·simp only [kA,if_false] at hc ⊢;simp only [execOp,d,resolve,hc,a];simp [invoke,builtin,Builtin.min_,Builtin.min2,e,j];exact yU.same A (by rfl)
 ·simp only [if_true] at hc ⊢;simp only [execOp,d,resolve,hc,a];simp [invoke,builtin,Builtin.max_,Builtin.max2,e,j];exact yU.same A (by rfl)
theorem yv {σ:Nat->V} {l:List Tmp} {a:Act} {w:World} {I:Cells} (h:VM σ l a w I):∀ (xs:List Operand),(∀ x ∈ xs,∀ t,x=.tmp t->t ∈ l)->V.reps w I (xs.map (ev σ)) (xs.map a.eval)
 | [],_=>by simp [V.reps]
 | x::xs,hx=>by
  simp only [z7,V.reps];exact⟨qlo h (hx x x6),yv h xs fun y d=>hx y (z8 _ d)⟩
theorem yW {g:FuncId} {args:Array Value} (h:zg P g=true):(callFunc g args).run P w=.ok (.enter g args) w:=by
 unfold zg at h;split at h
 ·rename_i fn d;simp only [k7,qMv] at h;have e:fn.body ≠ none:=by intro a;simp [a] at h
  have j : ¬ fn.name = "runtime.NumGoroutine" := by simpa using h.1
  simp [callFunc,d,j,e]
 ·cases h
theorem Wc {g:FuncId} {first cap:Array Value} {f:Operand} {a:Operand->Value} (hc:c.callee=.value f) (e:a f=.func (.func g) first cap) (h:zg P g=true) :
  ((do let d <-resolve a c t;invoke d.target d.args:Sem Next)).run P w=.ok (.enter g (first++c.args.map a++cap)) w:=by
 simp only [resolve,hc,e,Deferred.ofValue];simp only [Sem.run_bind,Sem.run_pure,Result.andThen_ok,invoke,yW h]
theorem qyy {f:Operand} (d:o.op=.call c) (hc:c.callee=.value f) (h:callK C.P (ev S.σ f) (c.args.toList.map (ev S.σ)) k):∃ v,kh C S o v/\k v:=by
 unfold callK at h;split at h
 ·rename_i g first cap F
  obtain⟨y,v,M,H⟩:=h;refine⟨v,fun n w I p a=>?_,H⟩;have j:=zL p (x:=f) (by simp [d,Op.operands,Call.operands,hc]);rw [F] at j;simp only [V.rep] at j;have N:=yv p c.args.toList (fun x P=>vH (by simp [d,Op.operands,Call.operands,hc];simp_all));simp only [execOp,d];rw [Wc hc j y];refine⟨rfl,?_⟩;have K:=qC (qC (xg (w:=w) (I:=I) first.toList) N) (xg cap.toList);have z:wX w I [] []:=⟨by simp,by simp,by decide,a.heap.inn,a.heap.glob⟩;have:=M w I _ K z;have e:(first.toList++c.args.toList.map n.eval++cap.toList).toArray=first++c.args.map n.eval++cap:=by
   apply qMc;simp
  rw [e] at this;refine this.mono fun e R ⟨x,r,O,Q,u,D,L,q,G,_,J⟩=>?_;exact⟨x,u,D,a.quiet _ (fun b A=>⟨A,by simp⟩) q G.inn,q.stays,J _ _ _ L⟩
 simp_all
theorem qEz (a:o.op=.nilCheck x) (h:nilK (ev S.σ x) k):∃ v,kh C S o v/\k v:=by
 unfold nilK at h;split at h
 ·rename_i u n;refine⟨_,fun p w I d j=>?_,h⟩;have r:=zL d (x:=x) (by simp [a,Op.operands]);rw [n] at r;simp only [V.rep] at r;simp only [execOp,a,r];exact yU.same j (by rfl)
 ·rename_i y n;refine⟨_,fun p w I d j=>?_,h⟩;have r:=zL d (x:=x) (by simp [a,Op.operands]);rw [n] at r;have q:=r;simp only [V.rep] at q;obtain⟨b,off,e,_⟩:=q;rw [e] at r;simp only [execOp,a,e];exact yU.same j r
 ·rename_i g first cap n
  refine⟨_,fun p w I d j=>?_,h⟩;have r:=zL d (x:=x) (by simp [a,Op.operands]);rw [n] at r;simp only [V.rep] at r;simp only [execOp,a,r];exact yU.same j (by rfl)
 simp_all
theorem qsp {parts:Array (Nat × Operand)} (a:o.op=.build t parts) (y:yo C.P t=true) (h:buildK C.P t (parts.toList.map fun p=>(p.1,ev S.σ p.2)) k):∃ v,kh C S o v/\k v:=by
 unfold buildK at h;split at h
 ·rename_i z D;obtain⟨F,q,u⟩:=h;refine⟨_,fun e w I j n=>?_,u⟩;obtain⟨x,d,A⟩:=qp2 (w:=w) (I:=I) (vals:=parts.map fun p=>(p.1,e.eval p.2)) D q (qdd y) (by simp)
   (by
    have:=yv j (parts.toList.map (·.2)) (fun x d=>vH (by simp only [a,Op.operands];simp_all));simpa [qN5,Function.comp_def] using this)
  simp only [execOp,a];rw [Sem.run_bind,d];exact yU.same n A
 simp_all
theorem qc7 {fn:Fn} {first captured:Array Operand} (a:o.op=.makeFunc fn first captured) (h:Ky fn (first.toList.map (ev S.σ)) (captured.toList.map (ev S.σ)) k):∃ v,kh C S o v/\k v:=by
 unfold Ky at h;split at h
 ·rename_i l m y n;refine⟨_,fun e w I d p=>?_,h⟩;have z:=J3 y (yv d first.toList (fun x q=>vH (by simp [a,Op.operands];simp_all)));have u:=jW n (yv d captured.toList (fun x q=>vH (by simp [a,Op.operands];simp_all)));have A:first.map e.eval=l.toArray:=by rw [<-z];apply qMc;simp
  have j:captured.map e.eval=m.toArray:=by rw [<-u];apply qMc;simp
  simp only [execOp,a,A,j,Instr.makeFunc];exact yU.same p (by rfl)
 ·rename_i y n;split at h
  ·refine⟨_,fun e w I d p=>?_,h⟩;have z:=yv d first.toList (fun x q=>vH (by simp [a,Op.operands];simp_all))
   have u:=jW n (yv d captured.toList (fun x q=>vH (by simp [a,Op.operands];simp_all)));have j:captured.map e.eval=#[]:=by apply qMc;simpa using u
   simp only [execOp,a,j,Instr.makeFunc];refine yU.same p ?_;simp only [V.rep];simp_all
  simp_all
 simp_all
end
def Bd (x:Option V) (d n:Nat) (e:Option Value):Prop:=(x=none/\e=none/\n=d)∨∃ a j,x=some (.lit (.int a j))/\e=some (.int a j)/\0<=j/\n=j.toNat
theorem wN {x:Option V} {d:Nat} {K:Nat->Prop} (h:bnd x d K):∃ n,K n/\∀ (w:World) (I:Cells) (a:Option Value),(∀ v,x=some v->∃ y,a=some y/\V.rep w I v y)->(x=none->a=none)->Bd x d n a:=by
 unfold bnd at h;split at h
 ·exact⟨d,h,fun w I a _ k=>.inl ⟨rfl,k rfl,rfl⟩⟩
 ·rename_i p j;refine⟨j.toNat,h.2,fun w I a e _=>.inr ⟨p,j,rfl,?_,h.1,rfl⟩⟩;obtain⟨y,q,o⟩:=e _ rfl;simp only [V.rep] at o;simp_all
 simp_all
theorem xn {σ:Nat->V} {l:List Tmp} {a:Act} {w:World} {I:Cells} (h:VM σ l a w I) (x:Option Operand) (d:∀ y,x=some y->∀ t,y=.tmp t->t ∈ l) :
  (∀ v,x.map (ev σ)=some v->∃ y,x.map a.eval=some y/\V.rep w I v y)/\(x.map (ev σ)=none->x.map a.eval=none):=by
 cases x with
 | none=>simp
 | some y =>
  simp only [Option.map_some,qAo,forall_eq',false_implies,and_true,simprocAttr];exact⟨_,rfl,qlo h (d y rfl)⟩
theorem zh {P:Program} {w:World} {a:IntKind} {j:Int} {y:Nat} {code:BoundsCode} (d:0<=j) (h:j.toNat<=y):(Instr.sliceBound (.int a j) y code).run P w=.ok j.toNat w :=
 run_sliceBound w a j y code d (by omega)
theorem Yp {P:Program} {w:World} {isS:Bool} {len cap l h:Nat} {I x p:Option V} {G y q:Option Value} (hc:len<=cap) (n:Bd I 0 l G) (u:Bd x len h y) (k:l<=h) (K:h<=len)
  (o:(p=none/\q=none)∨∃ m,Bd p 0 m q/\p ≠ none/\x ≠ none/\h<=m/\m<=len) :
  ∃ m,(Instr.sliceBounds isS len cap G y q).run P w=.ok (l,h,m) w/\h<=m:=by
 rcases o with⟨rfl,rfl⟩ | ⟨m,o,M,L,e,J⟩
 ·refine⟨cap,?_,by omega⟩;rcases u with⟨_,rfl,rfl⟩ | ⟨H,j,_,rfl,a,rfl⟩
  ·rcases n with⟨_,rfl,rfl⟩ | ⟨F,i,_,rfl,d,rfl⟩
   ·rfl
   ·simp [Instr.sliceBounds,zh d k]
  ·have z:j.toNat<=cap:=by omega
   rcases n with⟨_,rfl,rfl⟩ | ⟨F,i,_,rfl,d,rfl⟩
   ·simp [Instr.sliceBounds,zh a z]
   ·simp [Instr.sliceBounds,zh a z,zh d k]
 ·rcases o with⟨rfl,_⟩ | ⟨N,D,rfl,rfl,C,rfl⟩
  ·simp_all
  ·rcases u with⟨rfl,_⟩ | ⟨H,j,rfl,rfl,a,rfl⟩
   ·simp_all
   ·refine⟨D.toNat,?_,e⟩;have A:D.toNat<=cap:=by omega
    rcases n with⟨_,rfl,rfl⟩ | ⟨F,i,_,rfl,d,rfl⟩
    ·simp [Instr.sliceBounds,zh C A,zh a e]
    ·simp [Instr.sliceBounds,zh C A,zh a e,zh d k]
section
variable {C:Ctx} {S:St} {o:Oper} {k:V->Prop}
theorem WZ {P:Program} {w:World} {isS:Bool} {len cap l h m:Nat} {H q A:Option V} {z u C:Option Value} (n:Bd H 0 l z) (p:Bd q len h u) (F:Bd A cap m C) (k:l<=h) (e:h<=m) (o:m<=cap)
  (D:A.isSome=true->q.isSome=true):(Instr.sliceBounds isS len cap z u C).run P w=.ok (l,h,m) w:=by
 rcases F with⟨rfl,rfl,rfl⟩ | ⟨J,I,rfl,rfl,x,rfl⟩
 ·rcases p with⟨rfl,rfl,rfl⟩ | ⟨G,j,rfl,rfl,a,rfl⟩
  ·rcases n with⟨rfl,rfl,rfl⟩ | ⟨y,i,rfl,rfl,d,rfl⟩
   ·rfl
   ·simp [Instr.sliceBounds,zh d k]
  ·rcases n with⟨rfl,rfl,rfl⟩ | ⟨y,i,rfl,rfl,d,rfl⟩
   ·simp [Instr.sliceBounds,zh a e]
   ·simp [Instr.sliceBounds,zh a e,zh d k]
 ·rcases p with⟨rfl,rfl,rfl⟩ | ⟨G,j,rfl,rfl,a,rfl⟩
  ·simp at D
  ·rcases n with⟨rfl,rfl,rfl⟩ | ⟨y,i,rfl,rfl,d,rfl⟩
   ·simp [Instr.sliceBounds,zh x o,zh a e]
   ·simp [Instr.sliceBounds,zh x o,zh a e,zh d k]
theorem qsn {t:TypeId} {x:Operand} {z p d:Option Operand} (q:o.op=.slice t x z p d) (h:sliceK C.P t (ev S.σ x) (z.map (ev S.σ)) (p.map (ev S.σ)) (d.map (ev S.σ)) k):∃ v,kh C S o v/\k v:=by
 have F:∀ y,z=some y->∀ t,y=.tmp t->t ∈ Oper.tm o:=fun y T=>vH (by simp [q,Op.operands,T]);have D:∀ y,p=some y->∀ t,y=.tmp t->t ∈ Oper.tm o:=fun y T=>vH (by simp [q,Op.operands,T]);have U:∀ y,d=some y->∀ t,y=.tmp t->t ∈ Oper.tm o:=fun y T=>vH (by simp [q,Op.operands,T]);unfold sliceK at h;split at h
 ·rename_i s hd hx;obtain⟨af,h⟩:=h;obtain⟨hn,h,G⟩:=wN h;obtain⟨j,⟨K,A,Q⟩,J⟩:=wN h;refine⟨_,fun W w I a O=>?_,Q⟩;have r:=zL a (x:=x) (by simp [q,Op.operands]);rw [hx] at r;simp only [V.rep] at r;have L:=J w I _ (xn a z F).1 (xn a z F).2;have H:=G w I _ (xn a p D).1 (xn a p D).2;have M:d.map W.eval=none:=(xn a d U).2 af;obtain⟨m,R,_⟩:=Yp (P:=C.P) (w:=w) (isS:=false) (w3 s.size) L H K A (.inl ⟨rfl,rfl⟩);simp only [execOp,q,r,M,Instr.sliceAt,Instr.slice];simp only [Sem.run_bind,run_underlying hd,Result.andThen_ok,Option.isSome_none,kA,if_false,Sem.run_pure,R];exact yU.same O (by rfl)
 ·rename_i e v hd;split at h
  ·rename_i n hn;rcases YD h with h | ⟨b,off,ag,c0,hv,h⟩
   rotate_left
   ·obtain⟨m,h,Y⟩:=wN h;obtain⟨X,h,G⟩:=wN h;obtain⟨j,⟨K,A,Z,h4,Q⟩,J⟩:=wN h;refine⟨_,fun W w I a O=>?_,Q⟩;have r:=zL a (x:=x) (by simp [q,Op.operands]);rw [hv] at r;simp only [V.rep] at r;have L:=J w I _ (xn a z F).1 (xn a z F).2;have H:=G w I _ (xn a p D).1 (xn a p D).2;have M:=Y w I _ (xn a d U).1 (xn a d U).2;have R:=WZ (P:=C.P) (w:=w) (isS:=true) L H M K A Z h4;simp only [execOp,q,r,Instr.sliceAt,Instr.slice];simp only [Sem.run_bind,run_underlying hd,Result.andThen_ok,Sem.run_pure,R,xm hn];refine yU.same O ?_;simp only [V.rep];by_cases aa:m=j
    ·simp [aa]
    ·simp [aa,Addr.add_lit]
   obtain⟨es,h,ab⟩:=Kj h;obtain⟨X,h,G⟩:=wN h;obtain⟨j,⟨K,A,Z,Q⟩,J⟩:=wN h;refine⟨_,fun W w I a O=>?_,Q⟩;obtain⟨ad,cp,ex,hc,hl⟩:=ab w I _ (zL a (x:=x) (by simp [q,Op.operands]));have L:=J w I _ (xn a z F).1 (xn a z F).2;have H:=G w I _ (xn a p D).1 (xn a p D).2;have M:(d.map (ev S.σ)=none/\d.map W.eval=none)∨∃ m,Bd (d.map (ev S.σ)) 0 m (d.map W.eval)/\d.map (ev S.σ) ≠ none/\p.map (ev S.σ) ≠ none/\X<=m/\m<=es.length:=by
    cases hm:d.map (ev S.σ) with
    | none=>simp_all
    | some u =>
     obtain⟨g1,g2⟩:=Z u hm;obtain⟨m,⟨g3,g4⟩,Y⟩:=wN g2;have B:=Y w I _ (xn a d U).1 (xn a d U).2;rw [hm] at B;exact .inr ⟨m,B,by simp,fun e=>by simp_all,g3,g4⟩
   obtain⟨m,R,hm⟩:=Yp (P:=C.P) (w:=w) (isS:=true) hc L H K A M;simp only [execOp,q,ex,Instr.sliceAt,Instr.slice];simp only [Sem.run_bind,run_underlying hd,Result.andThen_ok,Sem.run_pure,R,xm hn];refine yU.same O ?_;have ae:((es.drop j).take (X - j)).length=X - j:=by simp;omega
   simp only [V.rep];refine⟨(fun y T=>nomatch T),if m=j then ad else ad.map (·.add (j * n)),m - j,by rw [ae],by omega,?_⟩;by_cases hz:X=j
   ·left;subst hz;simp
   ·right;rcases hl with rfl | ⟨b,off,rfl,hl⟩
    ·simp at A;omega
    ·refine⟨b,off+j * n,by rw [if_neg (by omega)];simp [Addr.add_lit],qq9 (qra hl j (by omega)) _⟩
  simp_all
 ·rename_i N e b off hd hx;split at h
  ·rename_i n hn;obtain⟨m,h,Y⟩:=wN h;obtain⟨X,h,G⟩:=wN h;obtain⟨j,⟨K,A,Z,h4,Q⟩,J⟩:=wN h;refine⟨_,fun W w I a O=>?_,Q⟩;have r:=zL a (x:=x) (by simp [q,Op.operands]);rw [hx] at r;simp only [V.rep] at r;have L:=J w I _ (xn a z F).1 (xn a z F).2;have H:=G w I _ (xn a p D).1 (xn a p D).2;have M:=Y w I _ (xn a d U).1 (xn a d U).2;have R:=WZ (P:=C.P) (w:=w) (isS:=false) L H M K A Z h4;simp only [execOp,q,r,Instr.sliceAt,Instr.sureAddr];simp only [Sem.run_bind,run_underlying hd,Result.andThen_ok,Sem.run_pure,R,xm hn];refine yU.same O ?_;simp only [V.rep];by_cases aa:m=j
   ·simp [aa]
   ·simp [aa,Addr.add_lit]
  simp_all
 simp_all
theorem qsq (h:detF C.P S o k):∃ v,kh C S o v/\k v:=by
 unfold detF at h;split at h
 ·rename_i x d;exact qg1 (.inl d) h
 ·rename_i x d;exact qg1 (.inr d) h
 ·rename_i c a b d;split at h
  ·rename_i t j;exact qyw d j h
  simp_all
 ·rename_i d;exact qyx d h
 ·rename_i d;exact Xl d (fun _ _ e=>by simp [zF] at e) h
 ·rename_i d;exact qso d h
 ·rename_i d;exact qg2 d h
 ·rename_i d;exact qE1 d h
 ·rename_i d;exact qtm d h
 ·rename_i d;split at h
  ·rename_i u;obtain⟨v,q,w⟩:=h;exact qJq d u q w
  simp_all
 ·rename_i d;exact qg4 d h
 ·rename_i d;split at h
  ·rename_i u;split at h
   ·rename_i q;exact qg3 d u q h
   simp_all
  simp_all
 ·rename_i d;exact qsn d h
 ·rename_i d;exact qsp d h.1 h.2
 ·rename_i d;exact qc7 d h
 ·rename_i d;exact qEz d h
 ·rename_i c d;split at h
  ·rename_i j;split at h
   ·rename_i n p;exact qE0 d j n p h
   simp_all
  ·rename_i j;split at h
   ·rename_i n p;exact qE2 d j n p h
   simp_all
  ·rename_i j;split at h
   ·rename_i n;exact Vf d true j n h
   simp_all
  ·rename_i j;split at h
   ·rename_i n;exact Vf d false j n h
   simp_all
  ·rename_i j;exact qyy d j h
  simp_all
 simp_all
end
def St.put (S:St) (d:Option Nat) (v:V):St:={ S with σ:=UI S.σ d v }
def isB (x:Value) (a:Bool):Bool:=match x with | .bool b=>b == a | _=>false
def QP:V:=.lit undef
def xM (ops:Array Oper) (σ:Nat->V) (o:Oper):Option Bool :=
 match o.guard with
 | none=>some true
 | some (g,a)=>match (ops[g]?).bind (·.dst) with
  | some d=>match σ d with
   | .lit x=>some (isB x a)
   | _=>none
  | none=>none
theorem kS.put {C S w I} (h:kS C S w I) (d:Option Nat) (v:V):kS C (S.put d v) w I:=⟨h.heap,h.mine,h.keeps,h.lo⟩
def zQ (C:Ctx) (S:St) (o:Oper) (K:St->Prop):Prop :=
 ∀ a w I,Γ C S a w I->∀ Q,o.wpIn C.fe 0 C.P a w (fun h j=>∃ d e,Γ C d h j e/\K d) Q
def zH (N:Nat) (o:Oper):Bool:=match o.dst with | some d=>decide (d < N) | none=>true
variable {o:Oper}
theorem qz {N:Nat} (h:zH N o=true):∀ i,o.dst=some i->i < N:=by
 intro i a;simpa [zH,a] using h
theorem wv {C S a w I} {ops:Array Oper} {b:Bool} (p:Γ C S a w I) (h:xM ops S.σ o=some b):Region.wanted o (yielded ops a.tmps)=b:=by
 unfold xM at h;unfold Region.wanted;cases n:o.guard with
 | none=>simp_all
 | some j =>
  obtain⟨g,q⟩:=j;simp only [n] at h ⊢;cases hd:(ops[g]?).bind (·.dst) with
  | none=>simp_all
  | some d =>
   simp only [hd] at h;split at h
   ·rename_i c k;simp only [qAo] at h;have r:=p.1.tmps d;rw [k] at r;simp only [V.rep] at r;rw [<-h];simp only [yielded,hd,Option.bind_some];cases e:a.tmps[d]? with
    | none =>
     simp [e] at r;rw [<-r];rfl
    | some x =>
     simp [e] at r;rw [<-r];cases x <;> (rfl)
   ·cases h
theorem Γ.reads {C S a w I} (h:Γ C S a w I) (l:List Tmp):VM S.σ l a w I:=⟨fun t _=>h.1.tmps t,h.2.heap.glob⟩
variable {w:World}
theorem ya {C:Ctx} {n:Nat} {f:FuncId} {args:Array Value} {R:Ending->World->Prop} (h:Calls C.P f args w R):CallsIn C.fe n C.P f args w R:=by
 unfold Ctx.fe;split
 ·exact callsIn_wide.2 h
 ·exact CallsIn.inRound _ (callsIn_wide.2 h)
theorem qp0 {C S w I v} {a:Act} (h:yU C S w I v ((execOp a.eval o).run C.P w)):(o.semAt C.fe.round a.eval).run C.P w=(execOp a.eval o).run C.P w:=by
 unfold Oper.semAt;split
 ·rename_i l c _ j;exfalso;simp only [execOp,j,Sem.run_bind] at h;cases e:(resolve a.eval c o.type).run C.P w with
  | ok d k=>rw [e] at h;assumption
  | halt x k=>rw [e] at h;assumption
 ·rfl
theorem vw {C:Ctx} {e:World} {a:Act} {n:Next} (h:(execOp a.eval o).run C.P w=.ok n e) (j:∀ d,n ≠ .defer d):(o.semAt C.fe.round a.eval).run C.P w=.ok n e:=by
 unfold Oper.semAt;split
 ·rename_i l c _ k;exfalso;simp only [execOp,k,Sem.run_bind] at h;cases p:(resolve a.eval c o.type).run C.P w with
  | ok d e=>rw [p] at h;simp only [Result.andThen,Sem.run_pure,Result.ok.injEq] at h;exact j d h.1.symm
  | halt x e=>simp_all
 omega
theorem Q8 {F:Fence} {n:Nat} {P:Program} {md:Region.Mode} {ops:Array Oper} {Q':Exit->Act->World->Prop}:∀ (l:List Oper) (k:Nat) (listed:Array Bool) (a:Act) (w:World),(∀ j,l[j]? = ops[k+j]?) ->
  Region.seqB md ops l.length k listed=true->wpListIn F n P ops Q' l a w->wpAnyIn F n P md ops Q' l.length listed a w
 | [],_,_,_,_,_,hB,h=>⟨by simpa [Region.seqB] using hB,h⟩
 | o::l,k,listed,a,w,hl,hB,h=>by
  have q:ops[k]? = some o:=by simpa using (hl 0).symm
  simp only [List.length_cons,Region.seqB,k7,decide_eq_true_eq] at hB;refine⟨fun z=>(by simp_all),fun i d=>?_⟩;rw [hB.1] at d;have u:i=k:=by simpa using d
  subst u;have x:wpOpIn F n P ops Q' i (wpListIn F n P ops Q' l) a w:=by unfold wpOpIn;simp only [q];exact h
  exact wpOpIn_mono (fun e y p=>Q8 l (i+1) _ e y (fun j=>by have:=hl (j+1);simpa [qP1,qQu 1 j] using this) hB.2 p) x
theorem yU.wp {C S a w I v} {Q:Exit->Act->World->Prop} {K:Act->World->Prop} (y:Γ C S a w I) (hd:zH C.N o=true) (h:yU C S w I v ((execOp a.eval o).run C.P w))
  (u:∀ z q d,Γ C (S.put o.dst v) z q d->K z q):o.wpIn C.fe 0 C.P a w K Q:=by
 unfold Oper.wpIn;refine⟨fun f _=>C.fe_fn f,?_⟩;rw [qp0 h];generalize (execOp a.eval o).run C.P w=r at h;cases r with
 | ok n q =>
  cases n <;> simp only [yU] at h <;> simp only [Oper.uponIn]
  case value x =>
   obtain⟨d,j,p,k⟩:=h;exact u _ _ d ⟨(y.1.mono p).put o.dst (qz hd) k,j.put _ _⟩
  case skip =>
   obtain⟨d,j,p,k⟩:=h;exact u _ _ d ⟨(y.1.mono p).put o.dst (qz hd) k,j.put _ _⟩
  case enter f args =>
   obtain⟨rfl,A⟩:=h;refine⟨fun hd=>absurd hd (by rw [C.fe_depth];decide),ya (A.mono fun e G F=>?_)⟩;obtain⟨x,d,D,j,p,k⟩:=F;subst D;exact u _ _ d ⟨(y.1.mono p).put o.dst (qz hd) k,j.put _ _⟩
 | halt x q=>simp only [yU] at h
variable {K:St->Prop}
theorem zQ.det {C S} {v:V} (hd:zH C.N o=true) (h:kh C S o v) (e:K (S.put o.dst v)):zQ C S o K :=
 fun _ _ _ a _=>yU.wp a hd (h _ _ _ (a.reads _) a.2) fun _ _ d j=>⟨_,d,j,e⟩
def kX (C:Ctx) (ops:Array Oper) (o:Oper) (v:V) (S:St):Prop :=
 (xM ops S.σ o=some true/\kh C S o v)∨(xM ops S.σ o=some false/\v=QP)
def Yv (C:Ctx) (ops:Array Oper) (i:Nat) (K:St->Prop) (S:St):Prop :=
 match ops[i]? with
 | none=>K S
 | some o=>zH C.N o=true/\∃ v,kX C ops o v S/\K (S.put o.dst v)
theorem qqb {C ops i S} {a:St->Prop} (h:∀ S,K S->a S) (d:Yv C ops i K S):Yv C ops i a S:=by
 unfold Yv at *;split
 ·simp_all
 ·rename_i o n;simp only [n] at d;obtain⟨e,v,j,k⟩:=d;exact⟨e,v,j,h _ k⟩
variable {d:Option Nat} {i:Nat}
theorem quw {σ:Nat->V} {v:V} (h:d ≠ some i):UI σ d v i=σ i:=by simp [UI,h]
theorem Kd (S:St) {e:Option Nat} (v u:V) (h:∀ i,d=some i->e ≠ some i):(S.put d v).put e u=(S.put e u).put d v:=by
 unfold St.put UI;congr 1;funext i;by_cases a:d=some i
 ·simp_all
 simp_all
theorem kh.put {C S} {v u:V} (h:kh C S o v) (hd:∀ i,d=some i->i ∉ Oper.tm o):kh C (S.put d u) o v:=by
 intro a w I z y;have F:kS C S w I:=⟨y.heap,y.mine,y.keeps,y.lo⟩;have D:VM S.σ (Oper.tm o) a w I:=⟨fun t A=>by
  have:=z.1 t A;rwa [show (S.put d u).σ t=S.σ t from quw (fun e=>hd t e A)] at this,z.2⟩
 have:=h a w I D F;generalize (execOp a.eval o).run C.P w=r at this;cases r with
 | ok n H =>
  cases n <;> simp only [yU] at this ⊢
  case value x=>obtain⟨k,j,p,q⟩:=this;exact⟨k,⟨j.heap,j.mine,j.keeps,j.lo⟩,p,q⟩
  case skip=>obtain⟨k,j,p,q⟩:=this;exact⟨k,⟨j.heap,j.mine,j.keeps,j.lo⟩,p,q⟩
  case enter f args =>
   refine⟨this.1,this.2.mono fun e J ⟨x,k,G,j,p,q⟩=>⟨x,k,G,⟨j.heap,j.mine,j.keeps,j.lo⟩,p,q⟩⟩
 | halt x H=>assumption
theorem J8 {ops:Array Oper} (h:i ∈ Oper.tm o):i ∈ o.looksAt ops:=qQd _ h
theorem KX {ops:Array Oper} {S:St} {v:V} (h:∀ i,d=some i->i ∉ o.looksAt ops):xM ops (S.put d v).σ o=xM ops S.σ o:=by
 unfold xM;cases j:o.guard with
 | none=>rfl
 | some a =>
  obtain⟨g,n⟩:=a;simp only [];cases hd:(ops[g]?).bind (·.dst) with
  | none=>rfl
  | some t =>
   have k:d ≠ some t:=fun e=>h t e (by simp [Oper.looksAt,j,hd]);simp only [];rw [show (S.put d v).σ t=S.σ t from quw k]
theorem kX.put {C ops S} {v u:V} (h:kX C ops o v S) (hd:∀ i,d=some i->i ∉ o.looksAt ops):kX C ops o v (S.put d u):=by
 unfold kX at *;rw [KX hd];exact h.imp (fun h=>⟨h.1,h.2.put fun i a e=>hd i a (J8 e)⟩) id
theorem kh.unput {C S} {v u:V} (h:kh C (S.put d u) o v) (hd:∀ i,d=some i->i ∉ Oper.tm o):kh C S o v:=by
 have e:(S.put d u).put d (match d with | some i=>S.σ i | none=>.any)=S:=by
  unfold St.put UI;cases S with
  | mk a boxes rows =>
   simp only [St.mk.injEq,and_true];funext i;cases d with
   | none=>simp
   | some j =>
    simp_all
 rw [<-e];exact h.put hd
theorem kX.unput {C ops S} {v u:V} (h:kX C ops o v (S.put d u)) (hd:∀ i,d=some i->i ∉ o.looksAt ops):kX C ops o v S:=by
 unfold kX at *;rw [KX hd] at h;exact h.imp (fun h=>⟨h.1,h.2.unput fun i a e=>hd i a (J8 e)⟩) id
theorem qvz {C ops S} {j:Nat} {a d:Oper} {v:V} (q:ops[j]? = some d) (p:a.apart ops d=true) (w:kX C ops a v S) (h:Yv C ops j K (S.put a.dst v)) :
  Yv C ops j (fun S'=>kX C ops a v S'/\K (S'.put a.dst v)) S:=by
 obtain⟨k,n,o⟩:=Oper.apart_spec p;unfold Yv at *;simp only [q] at *;obtain⟨e,u,hu,x⟩:=h;exact⟨e,u,hu.unput k,w.put o,by rw [<-Kd S v u n];omega⟩
variable {C:Ctx} {ops:Array Oper} {md:Region.Mode}
def XV (C:Ctx) (md:Region.Mode) (ops:Array Oper) (n:Nat) (L:Array Bool->St->Prop):Nat->Array Bool->St->Prop
 | 0,listed,S=>L listed S
 | f+1,listed,S=>Region.ready md ops listed ≠ []/\∀ i ∈ Region.ready md ops listed,i < n/\Yv C ops i (XV C md ops n L f (listed.setIfInBounds i true)) S
theorem qbo {S:St} {a:Act} {I:Cells} {u:Act->World->Prop} {Q':Exit->Act->World->Prop} (d:Γ C S a w I)
  (h:∀ S' j p q,Γ C S' j p q->K S'->u j p) (e:Yv C ops i K S):wpOpIn C.fe 0 C.P ops Q' i u a w:=by
 unfold Yv at e;unfold wpOpIn;split
 ·rename_i k;simp only [k] at e;exact h _ _ _ _ d e
 ·rename_i o k;simp only [k] at e;obtain⟨x,v,A,y⟩:=e;rcases A with⟨n,z⟩ | ⟨n,rfl⟩
  ·rw [if_pos (wv d n)];exact(yU.wp d x (z _ _ _ (d.reads _) d.2) fun j p q D=>h _ _ _ _ D y)
  ·rw [if_neg (by rw [wv d n];simp)];exact⟨fun f _=>C.fe_fn f,h (S.put o.dst QP) _ _ I ⟨d.1.put o.dst (qz x) (by rfl),d.2.put _ _⟩ y⟩
theorem Q7 {n g:Nat} {L:Array Bool->St->Prop} {Q':Exit->Act->World->Prop} (e:∀ listed S a w I,Γ C S a w I->L listed S->wpAnyIn C.fe 0 C.P md ops Q' g listed a w) :
  ∀ (f:Nat) (listed:Array Bool) (S:St) (a:Act) (w:World) (I:Cells),Γ C S a w I->XV C md ops n L f listed S->wpAnyIn C.fe 0 C.P md ops Q' (f+g) listed a w
 | 0,listed,S,a,w,I,d,h=>by rw [qJ0];exact e _ _ _ _ _ d h
 | f+1,listed,S,a,w,I,d,h=>by
  rw [show f+1+g=(f+g)+1 by omega];exact⟨fun p=>absurd p h.1,fun i q=>qbo d (fun S' k x j u o=>Q7 e f _ S' k x j u o) (h.2 i q).2⟩
theorem kX.qOp {v:V} {S:St} (a:ops[i]? = some o) (hd:zH C.N o=true) (d:kX C ops o v S) (h:K (S.put o.dst v)):Yv C ops i K S:=by
 unfold Yv;simp only [a];exact⟨hd,v,d,h⟩
theorem V0 {n:Nat} {u:Oper} {v:V} {L:Array Bool->St->Prop} (I:ops[i]? = some u) (F:zH C.N u=true)
  (y:(n < ops.size/\Region.sinkB md ops n=true/\Region.chainB md ops n=true)∨n=ops.size) (X:i < n)
  (R:∀ listed S,L listed S->∀ j ∈ Region.ready md ops listed,n<=j) :
  ∀ (f:Nat) (listed:Array Bool) (S:St),HeadInv md ops n listed ->
   (∀ j q,ops[j]? = some q->j ≠ i->listed.getD j true=false->(∀ e ∈ q.after,Region.binds md e=true->e.on ≠ i)->u.apart ops q=true) ->
   i ∈ Region.ready md ops listed->kX C ops u v S ->
   XV C md ops n L f (listed.setIfInBounds i true) (S.put u.dst v)->XV C md ops n L (f+1) listed S:=by
 have less:∀ (listed:Array Bool),HeadInv md ops n listed->i ∈ Region.ready md ops listed->∀ j ∈ Region.ready md ops listed,j < n:=fun listed p d j a=>by
  have w:=(mem_ready.1 d).1;rcases qNb j n with h | h
  ·exact h
  ·rcases y with⟨y,hs,Q⟩ | y
   ·exact absurd a (tail_waits hs Q y p _ i rfl X w j h)
   ·obtain⟨_,q,A,_⟩:=mem_ready.1 a;simp_all
 intro f
 induction f with
 | zero =>
  intro listed S p _ d z H;refine⟨fun h=>(by simp_all),fun j a=>⟨less listed p d j a,?_⟩⟩;have K:=less listed p d j a;by_cases o:j=i
  ·subst o;exact z.qOp I F H
  ·have:=R _ _ H j (ready_mono a o);omega
 | succ f ih =>
  intro listed S p G d z H;have w:=(mem_ready.1 d).1;refine⟨fun h=>(by simp_all),fun j a=>⟨less listed p d j a,?_⟩⟩;have K:=less listed p d j a;by_cases o:j=i
  ·subst o;exact z.qOp I F H
  ·have x:=(H.2 j (ready_mono a o)).2;obtain⟨Y,q,A,O⟩:=mem_ready.1 a;have ac:∀ e ∈ q.after,Region.binds md e=true->e.on ≠ i:=fun e T P U=>by
    have x:=O e T P;rw [U,getD_both w] at x;cases x
   have N:=qvz A (G j q A o Y ac) z x;have W:∀ k ok,ops[k]? = some ok->k ≠ i->(listed.setIfInBounds j true).getD k true=false ->
     (∀ e ∈ ok.after,Region.binds md e=true->e.on ≠ i)->u.apart ops ok=true:=fun k ok Z aa w ab=>by
    refine G k ok Z aa ?_ ab;by_cases J:j=k
    ·subst J;omega
    ·rw [getD_set_ne true J] at w;omega
   refine qqb (fun M D=>ih (listed.setIfInBounds j true) M (p.set a K) W (ready_mono d (qKh o)) D.1 ?_) N;rw [Array.setIfInBounds_comm _ _ o];exact D.2
theorem zQ.of_value {C S} (h:∀ a w I,Γ C S a w I->∃ x k S' j,(execOp a.eval o).run C.P w=.ok (.value x) k/\Γ C S' (a.put o.dst x) k j/\K S'):zQ C S o K:=by
 intro a w I u Q;obtain⟨x,k,S',j,n,p,q⟩:=h a w I u;unfold Oper.wpIn;refine⟨fun f _=>C.fe_fn f,?_⟩;rw [vw n (fun d e=>by cases e)];exact⟨S',j,p,q⟩
theorem zQ.of_skip {C S} (h:∀ a w I,Γ C S a w I->∃ k S' j,(execOp a.eval o).run C.P w=.ok .skip k/\Γ C S' (a.put o.dst undef) k j/\K S'):zQ C S o K:=by
 intro a w I u Q;obtain⟨k,S',j,n,p,q⟩:=h a w I u;unfold Oper.wpIn;refine⟨fun f _=>C.fe_fn f,?_⟩;rw [vw n (fun d e=>by cases e)];exact⟨S',j,p,q⟩
theorem Γ.ev {C S a w I} (h:Γ C S a w I) (x:Operand):V.rep w I (ev S.σ x) (a.eval x):=by
 cases x with
 | tmp t=>exact h.1.tmps t
 | const v=>rfl
 | global g=>exact qcs h.2.heap.glob.1
 | func f=>rfl
theorem Γ.evs {C S a w I} (h:Γ C S a w I) (xs:List Operand):V.reps w I (xs.map (VL.ev S.σ)) (xs.map a.eval):=by
 induction xs with
 | nil=>simp [V.reps]
 | cons x xs d=>simp only [z7,V.reps];exact⟨h.ev x,d⟩
theorem qV.new {I:Cells} (o:Obj) (e:∀ b o,I b o->b < w.heap.size):qV (fun b=>b < w.heap.size) w I (w.alloc o) I :=
 ⟨rfl,rfl,rfl,by simp,fun b a=>Below.heap_alloc w o b a,.of (fun b i d=>⟨d,World.cell?_alloc_past o b i (e b i d)⟩) (fun b a=>Below.heap_alloc w o b a),fun _ _ _ h=>h,fun _=>w3 _⟩
theorem kS.alloc {C S w I} (h:kS C S w I) (o:Obj):kS C S (w.alloc o) I :=
 h.quiet _ (fun _ a=>a) (qV.new o h.heap.inn) fun b i d=>by have:=h.heap.inn b i d;simp;omega
theorem kS.fresh {C S w I} (h:kS C S w I):w.heap.size ∉ qL S.boxes S.rows:=fun a=>by have:=h.heap.lt _ a;omega
theorem kS.notF {C S w I} (h:kS C S w I):¬ C.F w.heap.size:=fun a=>by have:=h.lo _ a;have:=h.keeps.size;omega
def St.addB (S:St) (b:Nat) (x:B):St:={ S with boxes:=(b,x)::S.boxes }
def St.addBox (S:St) (b:Nat) (cs:List V):St:={ S with boxes:=(b,.c cs)::S.boxes }
def St.addRow (S:St) (r:Row):St:={ S with rows:=r::S.rows }
theorem kS.box {C S w I} (h:kS C S w I) (arr:Array Value) (e:TyB) (cs:List V) (k:∀ x ∈ arr.toList,one x) (n:V.reps w I cs arr.toList) :
  kS C (S.addBox w.heap.size cs) (w.alloc (.cells arr e.1)) I:=by
 have a:=h.alloc (.cells arr e.1);have u:zf w I (w.alloc (.cells arr e.1)) I:=(qV.new (.cells arr e.1) h.heap.inn).stays;refine⟨⟨fun p j=>?_,a.heap.rw,?_,a.heap.inn,a.heap.glob⟩,fun b d=>?_,a.keeps,a.lo⟩
 ·rcases xb.1 j with rfl | j
  ·exact⟨arr,e,yB w _,k,V.reps_mono u _ _ n,fun o q=>by have:=h.heap.inn _ _ q;omega⟩
  ·exact a.heap.bx p j
 ·simp only [qL,St.addBox,z7,List.cons_append,js];exact⟨h.fresh,h.heap.nodup⟩
 ·simp only [qL,St.addBox,z7,List.cons_append,xb] at d;rcases d with rfl | d
  ·exact h.notF
  ·exact h.mine b d
theorem jz {w I}:∀ {cs:List V} {xs:List Value},V.reps w I cs xs->(∀ c ∈ cs,match c with | .lit x=>Xu x=true | .list _ _ _=>True | .ref _=>True | .fn _ _=>True | _=>False)->∀ x ∈ xs,one x
 | [],[],_,_,x,e=>by simp at e
 | c::cs,y::ys,h,hc,x,e=>by
  simp only [V.reps] at h;rcases xb.1 e with rfl | e
  ·have j:=hc c x6;have d:=h.1;cases c <;> simp only [V.rep] at d j
   case lit z=>rw [d];exact qv6 j
   case list own k es=>obtain⟨_,a,c,rfl,_⟩:=d;assumption
   case ref cs=>obtain⟨b,o,rfl,_⟩:=d;assumption
   case fn f vs=>obtain⟨xs,rfl,_⟩:=d;assumption
  ·exact jz h.2 (fun n p=>hc n (z8 _ p)) x e
 | [],_::_,h,_,_,_=>by simp [V.reps] at h
 | _::_,[],h,_,_,_=>by simp_all
def yx:List V->Bool
 | []=>true
 | .lit x::r=>Xu x && yx r
 | .list _ _ _::r=>yx r
 | .ref _::r=>yx r
 | .fn _ _::r=>yx r
 | _::_=>false
theorem jL:∀ {cs:List V},yx cs=true->∀ c ∈ cs,match c with | .lit x=>Xu x=true | .list _ _ _=>True | .ref _=>True | .fn _ _=>True | _=>False
 | .lit x::r,h,c,hc=>by
  simp only [yx,k7] at h;rcases xb.1 hc with rfl | hc
  ·exact h.1
  ·exact jL h.2 c hc
 | .list _ _ _::r,h,c,hc=>by
  simp only [yx] at h;rcases xb.1 hc with rfl | hc
  ·simp
  ·exact jL h c hc
 | .ref _::r,h,c,hc=>by
  simp only [yx] at h;rcases xb.1 hc with rfl | hc
  ·simp
  ·exact jL h c hc
 | .fn _ _::r,h,c,hc=>by
  simp only [yx] at h;rcases xb.1 hc with rfl | hc
  ·simp
  ·exact jL h c hc
 | .any::_,h,_,_=>by simp [yx] at h
 | .agg _::_,h,_,_=>by simp [yx] at h
 | .tup _::_,h,_,_=>by simp [yx] at h
 | [],_,_,hc=>by simp at hc
def ja (P:Program) (S:St) (d:Option Nat) (t:TypeId) (K:St->Prop):Prop :=
 match kG P t with
 | some z=>yx (z.map .lit)=true/\∀ b,b ∉ qL S.boxes S.rows->K ((S.addBox b (z.map .lit)).put d (.lit (.pointer (some ⟨b,0,none⟩))))
 | none=>False
theorem Γ.boxed {C S a w I} (h:Γ C S a w I) (d:Option Nat) (hd:∀ i,d=some i->i < C.N) (arr:Array Value) (e:TyB) (cs:List V) (k:yx cs=true) (j:V.reps w I cs arr.toList) :
  Γ C ((S.addBox w.heap.size cs).put d (.lit (.pointer (some ⟨w.heap.size,0,none⟩)))) (a.put d (.pointer (some ⟨w.heap.size,0,none⟩))) (w.alloc (.cells arr e.1)) I :=
 ⟨(h.1.mono (qV.new (.cells arr e.1) h.2.heap.inn).stays).put d hd (by rfl),(h.2.box arr e cs (jz j (jL k)) j).put _ _⟩
theorem qi4 {C S} {t:TypeId} (j:o.op=.alloc t) (hd:zH C.N o=true) (h:ja C.P S o.dst t K):zQ C S o K:=by
 unfold ja at h;split at h
 ·rename_i z d;refine zQ.of_value fun a w I e=>?_;obtain⟨v,n,k⟩:=X8 (w:=w) d;refine⟨_,_,_,I,?_,Γ.boxed e o.dst (qz hd) v.cells ⟨t,qHz d⟩ (z.map .lit) h.1 (by rw [k];exact xg z),h.2 _ e.2.fresh⟩;simp only [execOp,j,Instr.alloc,newVar,newRow];simp_all
 simp_all
def ZB (S:St) (d:Option Nat) (t:TypeId) (v:V) (K:St->Prop):Prop :=
 match xB v with
 | some a=>(yx a=true/\t < ntypes)/\∀ b,b ∉ qL S.boxes S.rows->K ((S.addBox b a).put d (.lit (.pointer (some ⟨b,0,none⟩))))
 | none=>False
theorem qu9 {C S} {t:TypeId} {x:Operand} (k:o.op=.box t x) (hd:zH C.N o=true) (h:ZB S o.dst t (VL.ev S.σ x) K):zQ C S o K:=by
 unfold ZB at h;split at h
 ·rename_i e j;refine zQ.of_value fun a w I d=>?_;have n:=uz j (d.ev x);refine⟨_,_,_,I,?_,Γ.boxed d o.dst (qz hd) (a.eval x).cells ⟨t,h.1.2⟩ e h.1.1 n,h.2 _ d.2.fresh⟩;simp only [execOp,k,Instr.box,newVar,newRow];rfl
 simp_all
def kZ:Bx->Nat->List V->Bx
 | [],_,_=>[]
 | (b,cs)::r,x,ds=>if x=b then (b,.c ds)::r else (b,cs)::kZ r x ds
theorem uP:∀ (a:Bx) (x:Nat) (ds:List V),(kZ a x ds).map (·.1)=a.map (·.1)
 | [],_,_=>rfl
 | (b,cs)::r,x,ds=>by
  unfold kZ;split
  ·rfl
  ·simp [uP r x ds]
theorem qev:∀ {d:Bx} {x:Nat} {ds:List V} {p:Nat × B},(d.map (·.1)).Nodup->p ∈ kZ d x ds->p=(x,.c ds)∨(p ∈ d/\p.1 ≠ x)
 | (b,cs)::r,x,ds,p,hn,a=>by
  unfold kZ at a;simp only [z7,js] at hn;split at a
  ·rename_i e;subst e;rcases xb.1 a with rfl | a
   ·simp
   ·exact .inr ⟨z8 _ a,fun e=>hn.1 (e▸x9.2 ⟨p,a,rfl⟩)⟩
  ·rename_i e;rcases xb.1 a with rfl | a
   ·exact .inr ⟨x6,fun j=>e j.symm⟩
   ·exact(qev hn.2 a).imp id fun h=>⟨z8 _ h.1,h.2⟩
 | [],_,_,_,_,a=>by simp [kZ] at a
def wm (P:Program) (S:St) (d:Option Nat) (t:TypeId) (p v:V) (K:St->Prop):Prop :=
 match p with
 | .lit (.pointer (some ⟨b,o,none⟩))=>match zF S.boxes b,xB v,zK P t with
  | some a,some e,some n=>e.length=n/\yx e=true/\o+n<=a.length/\K ({ S with boxes:=kZ S.boxes b (a.take o++e++a.drop (o+n)) }.put d .any)
  | _,_,_=>False
 | _=>False
theorem kS.write {C S w I b} {arr arr':Array Value} {e:TyB} {ds:List V} (h:kS C S w I) (hb:b ∈ S.boxes.map (·.1)) (y:w.heap[b]? = some (.cells arr e.1 (0,0)))
  (z:∀ x ∈ arr'.toList,one x) (A:V.reps w I ds arr'.toList):kS C { S with boxes:=kZ S.boxes b ds } (w.setRow b arr') I/\zf w I (w.setRow b arr') I:=by
 have q:∀ o,¬ I b o:=by
  obtain⟨p,j,rfl⟩:=x9.1 hb;exact(h.heap.bx p j).out
 have k:zf w I (w.setRow b arr') I:=.but b y (fun _ e=>by cases e) (fun d o a=>⟨a,cell_setRow_other w b arr' _ (fun e=>q o (by simp_all))⟩) (fun d n=>setRow_other w b d arr' n);have G:(S.boxes.map (·.1)).Nodup:=(w4.1 h.heap.nodup).1;have D:b ∈ qL S.boxes S.rows:=z6.2 (.inl hb);refine⟨⟨⟨fun p j=>?_,fun r u=>?_,?_,fun d o a=>by simpa using h.heap.inn d o a,h.heap.glob.mono k⟩,?_,?_,h.lo⟩,k⟩
 ·rcases qev G j with rfl | ⟨j,H⟩
  ·exact⟨arr',e,setRow_heap w b arr arr' e.1 (0,0) y,z,V.reps_mono k _ _ A,q⟩
  ·exact(h.heap.bx p j).mono k (setRow_other w b p.1 arr' H) fun _ a=>a
 ·refine(h.heap.rw r u).mono (fun g F=>setRow_other w b g arr' fun e=>?_) fun _ _ _ a=>a;subst e;exact(w4.1 h.heap.nodup).2.2 g hb g (qMx.2 ⟨r,u,F⟩) rfl
 ·simp only [qL,uP];exact h.heap.nodup
 ·simp only [qL,uP];exact h.mine
 ·exact h.keeps.trans ⟨rfl,rfl,rfl,by simp,fun d n=>setRow_other w b d arr' (fun e=>h.mine b D (e▸n)),k,fun _ _ _ a=>a,fun _=>w3 _⟩
theorem qiz {C S} {t:TypeId} {x y:Operand} (R:o.op=.store t x y) (hd:zH C.N o=true) (h:wm C.P S o.dst t (VL.ev S.σ x) (VL.ev S.σ y) K):zQ C S o K:=by
 unfold wm at h;split at h
 ·rename_i b off X;split at h
  ·rename_i k Y n N U Q;obtain⟨Z,H,g3,J⟩:=h;refine zQ.of_skip fun a w I j=>?_;have rx:=j.ev x;rw [X] at rx;simp only [V.rep] at rx;have D:=xq N;obtain⟨arr,e,F,G,u,q4⟩:=j.2.heap.bx _ D;have p:=uz U (j.ev y);have A:(a.eval y).cells.size=n:=by have:=qM p;simp at this;omega
   have aa:arr.size=k.length:=by have:=qM u;simpa using this
   have T:=jz p (jL H);have q:=run_storeCells_at (P:=C.P) b off e.1 (a.eval y).cells.toList 0 arr w F (by simp_all) (fun v W=>by
    have:=T v W;cases v <;> simp_all [one,Value.oneCell'])
   simp only [Nat.add_zero] at q;have O:(a.eval y).cells.toList.length=n:=by simpa using A
   rw [O] at q;obtain⟨M,L⟩:=j.2.write (ds:=k.take off++Y++k.drop (off+n)) (arr':=(arr.toList.take off++(a.eval y).cells.toList++arr.toList.drop (off+n)).toArray) (x9.2 ⟨_,D,rfl⟩) F
    (fun z d=>by
     simp only [z6] at d;rcases d with(d | d) | d
     ·exact G z (qAq d)
     ·simp_all
     ·exact G z (qEu d))
    (qC (qC (xD off u) p) (xt (off+n) u))
   refine⟨_,_,I,?_,⟨(j.1.mono L).put o.dst (qz hd) (by simp only [V.rep]),M.put _ _⟩,J⟩;simp only [execOp,R,rx,Instr.storeAt,Instr.sureAddr,storeVar];simp only [Sem.run_bind,Sem.run_pure,Result.andThen_ok,xm Q,A,ne_eq,not_true_eq_false,if_false,q]
  simp_all
 simp_all
end Go.VL
namespace Go
theorem qD {p:Prop} (h:p:=by(repeat' apply aI) <;> first | assumption | rfl | (intro _;first | trivial | assumption | rfl)):p:=h
end Go
namespace Go.VL
open Go.RowKit
def uj:List Row->Value->(Row->List Row->Prop)->Prop
 | [],_,_=>False
 | r::rs,y,K=>(r.x=y/\K r rs)∨uj rs y fun a d=>K a (r::d)
theorem J9:∀ {rows:List Row} {y:Value} {K:Row->List Row->Prop},uj rows y K->∃ r rs,K r rs/\r.x=y/\rows.Perm (r::rs)
 | r::rs,y,K,h=>by
  rcases h with⟨a,d⟩ | h
  ·exact⟨r,rs,d,a,.refl _⟩
  ·obtain⟨e,j,a,d,k⟩:=J9 h;exact⟨e,r::j,a,d,(k.cons r).trans (.swap e r j)⟩
theorem qbb {boxes:Bx} {rows a:List Row} (h:rows.Perm a):(qL boxes rows).Perm (qL boxes a) :=
 qN9 _ (h.filterMap _)
theorem kS.perm {C S w I rows'} (h:kS C S w I) (a:S.rows.Perm rows'):kS C { S with rows:=rows' } w I :=
 ⟨⟨h.heap.bx,fun r e=>h.heap.rw r (a.mem_iff.2 e),(qbb a).nodup_iff.1 h.heap.nodup,h.heap.inn,h.heap.glob⟩,fun b d=>h.mine b ((qbb a).mem_iff.2 d),h.keeps,h.lo⟩
theorem qtl {boxes:Bx} {r:Row} {rs:List Row}:∀ b ∈ qL boxes rs,b ∈ qL boxes (r::rs):=by
 intro b a;simp only [qL,z6,qMx] at a ⊢;exact a.imp id fun⟨h,d,e⟩=>⟨h,z8 _ d,e⟩
theorem qj5 {boxes:Bx} {r:Row} {rs:List Row} (h:(qL boxes (r::rs)).Nodup):(qL boxes rs).Nodup:=by
 refine List.Sublist.nodup ?_ h;unfold qL;exact List.Sublist.append_left ((qN7 r rs).filterMap _) _
theorem kS.drop {C S w I r rs} (h:kS C S w I) (e:S.rows=r::rs):kS C { S with rows:=rs } w I:=by
 have a:=h.heap.nodup;have d:=h.mine;rw [e] at a d;exact⟨⟨h.heap.bx,fun n k=>h.heap.rw n (e▸z8 _ k),qj5 a,h.heap.inn,h.heap.glob⟩,fun b j=>d b (qtl b j),h.keeps,h.lo⟩
theorem je {h:World} {d:Cells} {b k:Nat}:∀ {es:List (List V)} {xs:List Value} {o:Nat},V.reps h d es.flatten xs->(∀ e ∈ es,e.length=k) ->
  (∀ j x,xs[j]? = some x->h.cell? ⟨b,o+j,none⟩=some x/\d b (o+j)/\one x)->V.lies h d k es b o
 | [],xs,o,_,_,_=>by simp only [V.lies]
 | e::es,xs,o,a,hk,hc=>by
  simp only [V.lies];have z:=hk e x6;have u:=xD k a;have w:=xt k a;simp only [List.flatten_cons] at u w;rw [qPc (by omega),<-z,qNc] at u;rw [qPe (by omega),<-z,List.drop_length,qKv] at w;rw [z] at u w;refine⟨?_,z,je w (fun D F=>hk D (z8 _ F)) fun j x A=>?_⟩
  ·have ats:∀ {q:List V} {n:List Value} {p:Nat},V.reps h d q n->(∀ j x,n[j]? = some x->h.cell? ⟨b,p+j,none⟩=some x/\d b (p+j)/\one x)->V.ats h d q b p:=by
    intro q
    induction q with
    | nil=>intro n p _ _;simp only [V.ats]
    | cons v q G =>
     intro n p a hc;cases n with
     | nil=>simp [V.reps] at a
     | cons y n =>
      simp only [V.reps] at a;simp only [V.ats];obtain⟨c1,H,C⟩:=hc 0 y rfl;refine⟨⟨y,by omega,by omega,C,a.1⟩,G a.2 fun j x A=>?_⟩;have:=hc (j+1) x (by simp_all);rwa [show p+(j+1)=p+1+j from by omega] at this
   refine ats u fun j x A=>hc j x ?_;rw [qLd] at A;simp_all
  ·have:=hc (k+j) x (by simp_all);rwa [show o+(k+j)=o+k+j from by omega] at this
theorem kR {k:Nat}:∀ {es:List (List V)},(∀ e ∈ es,e.length=k)->es.flatten.length=es.length * k
 | [],_=>by simp
 | e::es,h=>by
  rw [qKs,zr,h e x6,kR fun a d=>h a (z8 _ d),qKg,uu];omega
theorem kS.newRow {C S w I} (h:kS C S w I) (arr:Array Value) (e:TypeId) (k:Nat) (F:0 < k) (es:List (List V)) (cap:Nat) (q:arr.size=cap * k) (hc:es.length<=cap) (G:cap<=maxLen) (A:∀ e ∈ es,e.length=k)
  (L:∀ x ∈ arr.toList.take (es.length * k),one x) (M:V.reps w I es.flatten (arr.toList.take (es.length * k))) :
  ∃ n,kS C (S.addRow ⟨.slice (some ⟨w.heap.size,0,none⟩) es.length cap,k,e⟩) (w.alloc (.cells arr e)) n/\zf w I (w.alloc (.cells arr e)) n /\
   V.rep (w.alloc (.cells arr e)) n (.list (some (.slice (some ⟨w.heap.size,0,none⟩) es.length cap)) k es) (.slice (some ⟨w.heap.size,0,none⟩) es.length cap):=by
 have K:=qV.alloc (w:=w) (I:=I) (.cells arr e) (fun i=>i < es.length * k) h.heap.inn;have H:(w.alloc (.cells arr e)).heap[w.heap.size]? = some (.cells arr e (0,0)):=yB w _;have W:=h.quiet _ (fun _ d=>d) K (fun b i a=>by
  rcases a with a | ⟨rfl,_⟩
  ·have:=h.heap.inn b i a;simp;omega
  ·simp)
 refine⟨_,⟨⟨W.heap.bx,fun r p=>?_,?_,W.heap.inn,W.heap.glob⟩,fun b d=>?_,W.keeps,W.lo⟩,K.stays,?_⟩
 ·rcases xb.1 p with rfl | p
  ·refine⟨F,⟨_,_,by simp only [V6,kB,Array.length_toList,q];simp_all,.inr ⟨w.heap.size,cap,arr,rfl,KM _,H,hc,G,q,rfl⟩⟩,fun g u o J a=>?_⟩;simp only [Value.ownBlock,qAo] at u;subst u;rcases a with a | ⟨_,a⟩
   ·have:=h.heap.inn _ _ a;omega
   ·simp only [V6] at J;omega
  ·exact W.heap.rw r p
 ·have:(qL S.boxes ((⟨.slice (some ⟨w.heap.size,0,none⟩) es.length cap,k,e⟩:Row)::S.rows)).Perm (w.heap.size::qL S.boxes S.rows):=by
   simp only [qL,List.filterMap_cons,Row.blk,Value.ownBlock];exact ux
  exact this.nodup_iff.2 (js.2 ⟨h.fresh,h.heap.nodup⟩)
 ·have:(qL S.boxes ((⟨.slice (some ⟨w.heap.size,0,none⟩) es.length cap,k,e⟩:Row)::S.rows)).Perm (w.heap.size::qL S.boxes S.rows):=by
   simp only [qL,List.filterMap_cons,Row.blk,Value.ownBlock];exact ux
  rcases xb.1 (this.mem_iff.1 d) with rfl | d
  ·exact h.notF
  ·exact h.mine b d
 ·simp only [V.rep];refine⟨fun y N=>(KL N),_,cap,rfl,hc,.inr ⟨w.heap.size,0,rfl,je (V.reps_mono K.stays _ _ M) A fun j x z=>?_⟩⟩;rw [qLd] at z;split at z
  ·rename_i D;refine⟨by simp_all,.inr ⟨rfl,by omega⟩,L x ?_⟩;exact qMm (i:=j) (by rw [qLd,if_pos D];omega)
  simp_all
theorem qhv {w:World} {I:Cells}:∀ {vs:List V} {b o:Nat},V.ats w I vs b o->∃ xs,V.reps w I vs xs/\(∀ x ∈ xs,one x)/\∀ j x,xs[j]? = some x->w.cell? ⟨b,o+j,none⟩=some x/\I b (o+j)
 | [],b,o,_=>⟨[],by assumption,by simp,by simp⟩
 | v::vs,b,o,h=>by
  simp only [V.ats] at h;obtain⟨⟨x,p,q,u,z⟩,e⟩:=h;obtain⟨xs,k,n,d⟩:=qhv e;refine⟨x::xs,by exact qD,fun y a=>?_,fun j y a=>?_⟩
  ·rcases xb.1 a with rfl | a
   ·omega
   simp_all
  ·cases j with
   | zero=>simp_all
   | succ j =>
    have:=d j y (by simp_all);rwa [show o+1+j=o+(j+1) from by omega] at this
theorem ZN {w:World} {I:Cells} {k:Nat}:∀ {es:List (List V)} {b o:Nat},V.lies w I k es b o->(∀ e ∈ es,e.length=k)/\∃ xs,V.reps w I es.flatten xs/\(∀ x ∈ xs,one x)/\∀ j x,xs[j]? = some x->w.cell? ⟨b,o+j,none⟩=some x/\I b (o+j)
 | [],b,o,_=>⟨by simp,[],by assumption,by simp,by simp⟩
 | e::es,b,o,h=>by
  simp only [V.lies] at h;obtain⟨y,H,z⟩:=h;obtain⟨xs,d,C,D⟩:=qhv y;obtain⟨q,A,p,F,u⟩:=ZN z;have K:=qM d;refine⟨fun G n=>?_,xs++A,by rw [qKs];exact qC d p,fun x a=>?_,fun j x a=>?_⟩
  ·rcases xb.1 n with rfl | n
   ·omega
   simp_all
  ·rcases z6.1 a with a | a
   ·simp_all
   simp_all
  ·rw [qQe] at a;split at a
   ·simp_all
   ·rename_i J;have:=u (j - xs.length) x a;rwa [show o+k+(j - xs.length)=o+j from by omega] at this
theorem qeo {α:Type} (L X Y:List α) (p k:Nat) (a:X.length=k) (d:p+k<=L.length) :
  (L.take p++X++L.drop (p+k)).take (p+k)++Y++(L.take p++X++L.drop (p+k)).drop (p+k+Y.length)=L.take p++(X++Y)++L.drop (p+(X++Y).length):=by
 have h:(L.take p++X).length=p+k:=by simp [a];omega
 rw [qBf h,List.drop_append,qFs (by omega),qKv,qK1,h];simp only [jm,zr,a];congr 4;omega
def yN (k:Nat):Nat->List (Nat × V)->Option (List (List V))
 | _,[]=>some []
 | j,(i,v)::r=>if i=j then match xB v,yN k (j+1) r with
  | some cs,some l=>if cs.length=k/\yx cs=true then some (cs::l) else none
  | _,_=>none
  else none
theorem Zh {w I} {k:Nat} (n:Nat):∀ {parts:List (Nat × V)} {vals:List (Nat × Value)} {j:Nat} {es:List (List V)} {arr:Array Value},yN k j parts=some es->arr.size=n * k->j+es.length<=n ->
  parts.map (·.1)=vals.map (·.1)->V.reps w I (parts.map (·.2)) (vals.map (·.2)) ->
  (∀ e ∈ es,e.length=k/\yx e=true)/\∃ arr' xs,Instr.fill (fun i=>some (i * k,k)) arr vals=some arr'/\V.reps w I es.flatten xs/\arr'.toList=arr.toList.take (j * k)++xs++arr.toList.drop (j * k+xs.length)
 | [],[],j,es,arr,h,hs,hj,_,_=>by
  simp only [yN,qAo] at h;subst h;exact⟨by simp,arr,[],rfl,by simp_all,by simp⟩
 | (i,v)::ps,(i',x)::vs,j,es,arr,h,hs,hj,a,hx=>by
  simp only [z7,qKi] at a;obtain⟨rfl,a⟩:=a;simp only [z7,V.reps] at hx;unfold yN at h;split at h
  ·rename_i e;subst e;split at h
   ·rename_i d l z A;split at h
    ·rename_i F;obtain rfl:=KL h;have p:=uz z hx.1;have C:x.cells.size=k:=by have:=qM p;simp at this;omega
     simp only [List.length_cons] at hj;have D:i * k+k<=arr.size:=by rw [hs,<-qP8];exact qG4 k (by omega)
     have o:=Wv (i * k) x.cells.toList 0 arr (by simp_all);simp only [Nat.add_zero] at o;have u:x.cells.toList.length=k:=by simpa using C
     rw [u] at o;obtain⟨q,arr',xs,f1,f2,f3⟩:=Zh n (arr:=(x.cells.zipIdx).foldl (fun d (c,j)=>d.setIfInBounds (i * k+j) c) arr) A (by
      have:((x.cells.zipIdx).foldl (fun d (c,j)=>d.setIfInBounds (i * k+j) c) arr).toList.length=n * k:=by
       rw [<-qPt,qQj,o];simp;omega
      omega) (by omega) a hx.2
     refine⟨fun e y=>?_,arr',x.cells.toList++xs,?_,by rw [qKs];exact qC p f2,?_⟩
     ·rcases xb.1 y with rfl | y
      ·omega
      simp_all
     ·unfold Instr.fill;simp_all
     ·rw [f3,<-qPt,qQj,o];have:=qeo arr.toList x.cells.toList xs (i * k) k u (by omega);rw [show (i+1) * k=i * k+k from by rw [uu];omega];omega
    ·cases h
   ·cases h
  ·cases h
 | [],_::_,_,_,_,_,_,_,a,_=>by simp at a
 | _::_,[],_,_,_,_,_,_,a,_=>by simp at a
def ze (P:Program) (S:St) (d:Option Nat) (t:TypeId) (n:Nat) (parts:List (Nat × V)) (K:St->Prop):Prop :=
 match P.underlying t with
 | some (.slice e)=>match zK P e,kG P e with
  | some k,some z=>0 < k/\z.length=k/\n * k<=16777216/\∃ es,yN k 0 parts=some es/\es.length=n/\∀ y,K ((S.addRow ⟨y,k,e⟩).put d (.list (some y) k es))
  | _,_=>False
 | _=>False
theorem QO {C S} {o:Oper} {t:TypeId} {n:Nat} {parts:Array (Nat × Operand)} {K:St->Prop} (ho:o.op=.buildSlice t n parts) (hd:zH C.N o=true)
  (h:ze C.P S o.dst t n (parts.toList.map fun p=>(p.1,VL.ev S.σ p.2)) K):zQ C S o K:=by
 unfold ze at h;split at h
 ·rename_i e hu;split at h
  ·rename_i k z M hz;obtain⟨J,ag,U,es,aa,u,T⟩:=h;refine zQ.of_value fun a w I F=>?_;obtain⟨v,hv,af⟩:=X8 (w:=w) hz;have ah:v.cells.size=k:=by have:=congrArg List.length af;simpa [ag] using this
   obtain⟨q,d,G,f1,f2,f3⟩:=Zh (w:=w) (I:=I) n (k:=k) (arr:=(Array.range (n * k)).map (v.cells[· % v.cells.size]!)) (vals:=parts.toList.map fun p=>(p.1,a.eval p.2)) aa (by simp) (by omega) (by simp)
    (by
     have:=F.evs (parts.toList.map (·.2));simpa [qN5,Function.comp_def] using this)
   have ab:=kR (fun j y=>(q j y).1);have D:G.length=n * k:=by rw [qM f2,ab,u]
   have L:d.toList=G:=by
    rw [f3,D];simp
   have ad:d.size=n * k:=by rw [<-D,<-L];simp
   have ae:d.toList.take (es.length * k)=G:=by rw [L,u,<-D,qNc]
   have ac:n<=maxLen:=by
    have:=km (qOj n J) U;simp only [maxLen];omega
   obtain⟨N,P,Q,R⟩:=F.2.newRow d e k J es n ad (by omega) ac (fun j y=>(q j y).1) (by
    rw [ae];refine jz f2 fun c X=>?_;obtain⟨j,Z,Y⟩:=qQz.1 X;exact jL (q j Z).2 c Y) (by simp_all)
   refine⟨_,_,_,N,?_,⟨(F.1.mono Q).put o.dst (qz hd) R,P.put _ _⟩,T _⟩;simp only [execOp,ho,Instr.buildSlice,newRow];have W:¬ (n * k > 2 ^ 24):=by omega
   have H:(parts.map fun x=>(x.1,a.eval x.2)).toList=parts.toList.map fun p=>(p.1,a.eval p.2):=by simp
   by_cases A:n * k=0
   ·have O:Instr.fill (fun i=>some (i * k,k)) (Array.map (fun x=>(#[]:Array Value)[x % (#[]:Array Value).size]!) (Array.range 0)) (parts.toList.map fun p=>(p.1,a.eval p.2))=some d:=by
     rw [A,Array.range_zero',qPp] at f1;rw [Array.range_zero',qPp];exact f1
    simp only [Sem.run_bind,run_underlying hu,Result.andThen_ok,xm M,A,show ¬ (0 > 2 ^ 24) from by omega,if_false,if_true,H,O,run_newObj,Sem.run_pure,World.alloc_eq,u]
   ·simp only [Sem.run_bind,run_underlying hu,Result.andThen_ok,xm M,W,if_false,A,hv,H,f1,run_newObj,Sem.run_pure,World.alloc_eq,u]
  simp_all
 simp_all
theorem vl {x:Value} (h:one x):x.oneCell'=true:=by cases x <;> simp_all [one,Value.oneCell']
theorem JH (z:Array Value) (n:Nat):(Builtin.zeroCells z n).size=n * z.size:=by simp [Builtin.zeroCells]
theorem kS.addNil {C S w I} (h:kS C S w I) (k:Nat) (j:0 < k) (e:TypeId):kS C (S.addRow ⟨.slice none 0 0,k,e⟩) w I:=by
 have d:qL S.boxes ((⟨.slice none 0 0,k,e⟩:Row)::S.rows)=qL S.boxes S.rows:=by simp only [qL,List.filterMap_cons,Row.blk,Value.ownBlock]
 refine⟨⟨h.heap.bx,fun r a=>?_,by rw [St.addRow,d];exact h.heap.nodup,h.heap.inn,h.heap.glob⟩,by rw [St.addRow,d];exact h.mine,h.keeps,h.lo⟩;rcases xb.1 a with rfl | a
 ·exact⟨j,⟨e,[],by simp [V6],.inl ⟨rfl,rfl⟩⟩,fun g n=>by exact qD⟩
 ·exact h.heap.rw r a
def buildSliceD (P:Program) (t:TypeId) (n:Nat) (parts:List (Nat × V)) (k:V->Prop):Prop :=
 match P.underlying t with
 | some (.slice e)=>match zK P e,kG P e with
  | some c,some z=>0 < c/\z.length=c/\n * c<=16777216/\∃ es,yN c 0 parts=some es/\es.length=n/\k (.list none c es)
  | _,_=>False
 | _=>False
theorem Vg {C:Ctx} {S:St} {o:Oper} {k:V->Prop} {t:TypeId} {n:Nat} {parts:Array (Nat × Operand)} (M:o.op=.buildSlice t n parts)
  (h:buildSliceD C.P t n (parts.toList.map fun p=>(p.1,VL.ev S.σ p.2)) k):∃ v,kh C S o v/\k v:=by
 unfold buildSliceD at h;split at h
 ·rename_i e hu;split at h
  ·rename_i c z L hz;obtain⟨J,ai,X,es,ac,u,T⟩:=h;refine⟨_,fun a w I U W=>?_,T⟩;obtain⟨v,hv,ah⟩:=X8 (w:=w) hz;have aj:v.cells.size=c:=by have:=congrArg List.length ah;simpa [ai] using this
   obtain⟨q,d,F,f1,f2,f3⟩:=Zh (w:=w) (I:=I) n (k:=c) (arr:=(Array.range (n * c)).map (v.cells[· % v.cells.size]!)) (vals:=parts.toList.map fun p=>(p.1,a.eval p.2)) ac (by simp) (by omega) (by simp)
    (by
     have:=yv U (parts.toList.map (·.2)) (fun x hx=>vH (by simp only [M,Op.operands];simp_all));simpa [qN5,Function.comp_def] using this)
   have ad:=kR (fun j y=>(q j y).1);have D:F.length=n * c:=by rw [qM f2,ad,u]
   have K:d.toList=F:=by
    rw [f3,D];simp
   have af:d.size=n * c:=by rw [<-D,<-K];simp
   have ag:d.toList.take (es.length * c)=F:=by rw [K,u,<-D,qNc]
   have ae:n<=maxLen:=by
    have:=km (qOj n J) X;simp only [maxLen];omega
   obtain⟨G,O,P,Q⟩:=W.newRow d e c J es n af (by omega) ae (fun j y=>(q j y).1) (by
    rw [ag];refine jz f2 fun c Z=>?_;obtain⟨j,ab,aa⟩:=qQz.1 Z;exact jL (q j ab).2 c aa) (by simp_all)
   have R:kS C S (w.alloc (.cells d e)) G:=O.drop rfl;have run:((execOp a.eval o).run C.P w)=.ok (.value (.slice (some ⟨w.heap.size,0,none⟩) es.length n)) (w.alloc (.cells d e)):=by
    simp only [execOp,M,Instr.buildSlice,newRow];have Y:¬ (n * c > 2 ^ 24):=by omega
    have H:(parts.map fun x=>(x.1,a.eval x.2)).toList=parts.toList.map fun p=>(p.1,a.eval p.2):=by simp
    by_cases A:n * c=0
    ·have N:Instr.fill (fun i=>some (i * c,c)) (Array.map (fun x=>(#[]:Array Value)[x % (#[]:Array Value).size]!) (Array.range 0)) (parts.toList.map fun p=>(p.1,a.eval p.2))=some d:=by
      rw [A,Array.range_zero',qPp] at f1;rw [Array.range_zero',qPp];exact f1
     simp only [Sem.run_bind,run_underlying hu,Result.andThen_ok,xm L,A,show ¬ (0 > 2 ^ 24) from by omega,if_false,if_true,H,N,run_newObj,Sem.run_pure,World.alloc_eq,u]
    ·simp only [Sem.run_bind,run_underlying hu,Result.andThen_ok,xm L,Y,if_false,A,hv,H,f1,run_newObj,Sem.run_pure,World.alloc_eq,u]
   rw [run];refine⟨G,R,P,?_⟩;simp only [V.rep] at Q ⊢;simp_all
  simp_all
 simp_all
def detG (P:Program) (S:St) (o:Oper) (k:V->Prop):Prop :=
 match o.op with
 | .buildSlice t n parts=>buildSliceD P t n (parts.toList.map fun p=>(p.1,VL.ev S.σ p.2)) k
 | _=>detF P S o k
theorem Wz {C:Ctx} {S:St} {o:Oper} {k:V->Prop} (h:detG C.P S o k):∃ v,kh C S o v/\k v:=by
 unfold detG at h;split at h
 ·rename_i a;exact Vg a h
 ·exact qsq h
section
variable {C:Ctx} {ops:Array Oper} {md:Region.Mode}
def XG (P:Program) (ops:Array Oper) (K:St->Prop):List Oper->St->Prop
 | [],S=>K S
 | o::rest,S=>match xM ops S.σ o with
  | some true=>detG P S o fun v=>XG P ops K rest (S.put o.dst v)
  | some false=>XG P ops K rest (S.put o.dst QP)
  | none=>False
theorem JS {K:St->Prop} {o:Oper} {rest:List Oper} {S:St} (h:XG C.P ops K (o::rest) S):∃ v,kX C ops o v S/\XG C.P ops K rest (S.put o.dst v):=by
 simp only [XG] at h;split at h
 ·rename_i a;obtain⟨v,e,d⟩:=Wz h;exact⟨v,.inl ⟨a,e⟩,d⟩
 ·rename_i a;exact⟨_,.inr ⟨a,rfl⟩,h⟩
 simp_all
theorem WK {n g:Nat} {Lq:St->Prop} (e:(n < ops.size/\Region.sinkB md ops n=true/\Region.chainB md ops n=true)∨n=ops.size) :
  ∀ (l:List Oper) (k:Nat) (listed:Array Bool) (S:St),(∀ j,j < l.length->l[j]? = ops[k+j]?)->(∀ o ∈ l,zH C.N o=true)->k+l.length=n->HeadInv md ops n listed ->
  Region.lexHead md ops g l.length k listed=true->XG C.P ops Lq l S ->
  XV C md ops n (fun q S'=>Region.seqB md ops g n q=true/\Lq S') l.length listed S
 | [],k,listed,S,_,_,hk,_,hB,h=>by
  have:k=n:=by simpa using hk
  subst this;exact qD
 | o::l,k,listed,S,hl,hdl,hk,inv,hB,h=>by
  have a:ops[k]? = some o:=by simpa using (hl 0 (by simp)).symm
  simp only [List.length_cons,Region.lexHead,k7] at hB;obtain⟨⟨A,y⟩,u⟩:=hB;have d:k < n:=by simp only [List.length_cons] at hk;omega
  have p:k ∈ Region.ready md ops listed:=by simpa using A
  obtain⟨v,D,w⟩:=JS h;exact V0 a (hdl o x6) e d (fun q S' x=>seqB_ready x.1) l.length listed S inv (Region.free_spec a y) p D
   (WK e l (k+1) _ _ (fun j G=>by have:=hl (j+1) (by simp_all);simpa [qP1,qQu 1 j] using this) (fun F z=>hdl F (z8 _ z)) (by simp only [List.length_cons] at hk;omega) (inv.set p d) u w)
def qog (ops:Array Oper) (n:Nat):Bool :=
 Region.noSelect ops && (decide (n < ops.size) && Region.sinkB .any ops n && Region.chainB .any ops n || decide (n=ops.size)) && Region.lexHead .any ops (ops.size - n) n 0 (Array.replicate ops.size false)
theorem JU {id:Nat} {Q:Exit->Act->World->Prop} {S:St} {a:Act} {w:World} {I:Cells} {l:List Oper} (n:Nat) (F:C.P.follows .mixedOrders=true) (x:qog l.toArray n=true) (D:∀ o ∈ l,zH C.N o=true) (p:Γ C S a w I)
  (T:St->Prop) (A:∀ S' e k u,Γ C S' e k u->T S'->wpListIn C.fe 0 C.P l.toArray Q (l.drop n) e k) (h:XG C.P l.toArray T (l.take n) S):(Code.region id l.toArray true).wpIn C.fe 0 C.P Q a w:=by
 simp only [qog,k7,qPn,decide_eq_true_eq] at x;obtain⟨⟨O,d⟩,M⟩:=x;have N:n<=l.length:=by
  rcases d with d | d
  ·have:=d.1.1;simp at this;omega
  ·simp_all
 have R:(l.take n).length=n:=by simp;omega
 have K:(l.drop n).length=l.toArray.size - n:=by simp
 have J:HeadInv .any l.toArray n (Array.replicate l.toArray.size false) :=
  ⟨by simp,fun j U _ y=>(by rw [getD_replicate_false] at y;cases y),fun t _ P=>getD_in (by simp_all) (getD_replicate_false _ _)⟩
 have H:=WK (C:=C) (md:=.any) (g:=l.toArray.size - n) (Lq:=T) (n:=n) (by rcases d with d | d;exact .inl ⟨d.1.1,d.1.2,d.2⟩;omega) (l.take n) 0 _ S (fun j L=>by
  simp_all) (fun o G=>D o (qAq G)) (by omega) J (by simp_all) h
 refine wpIn_region_any F ?_;have q:Γ C S a { w with drawn:=w.drawn+1 } I:=⟨p.1.mono (qV.drew (fun _=>True) w I).stays,p.2.quiet (fun _=>True) (fun _ _=>trivial) (qV.drew _ w I) p.2.heap.inn⟩;have:=Q7 (Q':=Q) (g:=l.toArray.size - n) (fun listed S' e k u q z=>by
  have:=Q8 (md:=.any) (Q':=Q) (l.drop n) n listed e k (fun j=>by simp) (by simp_all) (A _ _ _ _ q z.2);simp_all) _ _ _ _ _ _ q H
 simp_all
end
def St.setBoxes (S:St) (a:Bx):St:={ S with boxes:=a }
def St.setRows (S:St) (rs:List Row):St:={ S with rows:=rs }
def Zz (s:ByteArray):List V:=s.data.toList.map fun b=>.lit (.int .u8 b.toNat)
def Xr (P:Program) (S:St) (d:TypeId) (k:Nat) (x:V) (K:Nat->List V->Prop):Prop :=
 match P.underlying d,x with
 | some (.slice _),.list _ k' es=>k'=k/\K es.length es.flatten
 | some (.slice _),.lit (.slice none 0 0)=>K 0 []
 | some (.slice _),.lit (.slice (some ⟨b,o,none⟩) n _)=>match zF S.boxes b with
  | some a=>o+n * k<=a.length/\K n ((a.drop o).take (n * k))
  | none=>False
 | some .string,.lit (.string s)=>k=1/\K s.size (Zz s)
 | _,_=>False
structure qMb (C:Ctx) (S:St) (tx:TypeId) (k:Nat) (x:V) (n:Nat) (fs:List V):Prop where
 get:∀ w I xv,kS C S w I->V.rep w I x xv->∃ news,V.reps w I fs news/\(∀ u ∈ news,one u)/\Src C.P k tx xv n news w/\∀ r,r<=n->(Builtin.firstCells k r xv).run C.P w=.ok (news.take (r * k)).toArray w
theorem Yt {w I} (s:ByteArray):V.reps w I (Zz s) (byteCells s):=by
 unfold Zz byteCells;generalize s.data.toList=l
 induction l with
 | nil=>simp [V.reps]
 | cons b r a=>exact qD
theorem US {C:Ctx} {S:St} {O:TypeId} {k:Nat} {x:V} {K:Nat->List V->Prop} (h:Xr C.P S O k x K):∃ n fs,K n fs/\qMb C S O k x n fs:=by
 unfold Xr at h;split at h
 ·rename_i e own p es hu;obtain⟨rfl,A⟩:=h;refine⟨_,_,A,⟨fun w I G D d=>?_⟩⟩;simp only [V.rep] at d;obtain⟨_,a,c,rfl,W,F⟩:=d;rcases F with rfl | ⟨b,o,rfl,F⟩
  ·refine⟨[],by simp [V.reps],by simp,?_,fun r d=>?_⟩
   ·cases a with
    | none=>simpa using Src.ofNil (P:=C.P) w (size:=p) hu c
    | some a=>simpa using Src.ofSlice (P:=C.P) w (size:=p) hu a 0 c [] (by simp) (by simp) (by simp)
   ·obtain rfl:r=0:=by simp_all
    cases a with
    | none=>simpa using run_firstCells_none (P:=C.P) w p 0 0 c
    | some a=>simpa using run_firstCells_some (P:=C.P) w p 0 a 0 c [] (by simp) (by simp)
  ·obtain⟨q,news,M,N,r3⟩:=ZN F;have T:news.length=es.length * p:=by rw [qM M,kR q]
   refine⟨news,M,N,Src.ofSlice (P:=C.P) w hu ⟨b,o,none⟩ es.length c news T (fun j u z=>by rw [Addr.add_lit];simp_all) (fun u y=>vl (N u y)),fun r d=>?_⟩;have H:r * p<=es.length * p:=qG4 _ d;refine run_firstCells_some (P:=C.P) w p r ⟨b,o,none⟩ es.length c _ (by simp_all) fun j u z=>?_;rw [Addr.add_lit];rw [qLd] at z;simp_all
 ·rename_i e hu;refine⟨0,[],h,⟨fun w I G D d=>?_⟩⟩;simp only [V.rep] at d;subst d;exact⟨[],by simp [V.reps],by simp,Src.ofNil (P:=C.P) w (size:=k) hu 0,fun r d=>by
   obtain rfl:r=0:=by omega
   simpa using run_firstCells_none (P:=C.P) w k 0 0 0⟩
 ·rename_i e b o n c hu;split at h
  ·rename_i Q R;obtain⟨Y,A⟩:=h;refine⟨n,_,A,⟨fun w I G D d=>?_⟩⟩;simp only [V.rep] at d;subst d;obtain⟨arr,te,U,J,L,Z⟩:=D.heap.bx _ (xq R);have X:arr.size=Q.length:=by have:=qM L;simpa using this
   have cell:∀ m j u,((arr.toList.drop o).take m)[j]? = some u->w.cell? ((⟨b,o,none⟩:Addr).add j)=some u:=fun m j u z=>by
    rw [Addr.add_lit];rw [qLd] at z;split at z
    ·rw [qOm] at z;simp only [World.cell?, U,Option.isSome_none,kA,if_false];simp_all
    simp_all
   refine⟨(arr.toList.drop o).take (n * k),xD _ (xt _ L),fun u y=>J u (qEu (qAq y)),?_,fun r d=>?_⟩
   ·exact Src.ofSlice (P:=C.P) w hu ⟨b,o,none⟩ n c _ (by simp;omega) (cell _) fun u y=>vl (J u (qEu (qAq y)))
   ·have H:r * k<=n * k:=qG4 _ d;rw [qOv,qKt H];exact run_firstCells_some (P:=C.P) w k r ⟨b,o,none⟩ n c _ (by simp;omega) (cell _)
  simp_all
 ·rename_i s hu;obtain⟨rfl,A⟩:=h;refine⟨_,_,A,⟨fun w I G D d=>?_⟩⟩;simp only [V.rep] at d;subst d;refine⟨byteCells s,Yt s,fun u y=>?_,Src.ofString (P:=C.P) w hu s,fun r d=>?_⟩
  ·obtain⟨b,_,rfl⟩:=x9.1 y;trivial
  ·simp only [Builtin.firstCells,Sem.run_pure,qPh];congr 1;apply qMc;simp [byteCells,ByteArray.data_extract]
 simp_all
theorem yT {P:Program} (w:World) (t p ty e:TypeId) (i:TypeInfo) (y:P.underlying t=some (.slice e)) (q:P.info? e=some i) (b off a h:Nat) (x:Value) (n:Nat) (news:List Value) (d:Src P i.size p x n news w)
  (u:a+n<=h) (arr:Array Value) (o:TypeId) (hb:w.heap[b]? = some (.cells arr o (0,0))) (A:off+a * i.size+news.length<=arr.size) :
  (Builtin.append_ #[t,p] ty #[.slice (some ⟨b,off,none⟩) a h,x]).run P w=.ok (.slice (some ⟨b,off,none⟩) (a+n) h)
   (w.setRow b (arr.toList.take (off+a * i.size)++news++arr.toList.drop (off+a * i.size+news.length)).toArray):=by
 have k:=run_storeCells_at (P:=P) b (off+a * i.size) o news 0 arr w hb (by omega) d.one;simp only [Nat.add_zero] at k;rcases d.kind with⟨z,j⟩ | j <;> simp [Builtin.append_,run_underlying y,run_underlying j,sizeOf,typeInfo,q,d.len,u,d.cells,Addr.add_lit,k]
def zC (n:Nat):List V:=List.replicate n .any
theorem uR {w I}:∀ {n:Nat} {xs:List Value},xs.length=n->V.reps w I (zC n) xs
 | 0,[],_=>by simp [zC,V.reps]
 | n+1,x::xs,h=>by
  have:=uR (w:=w) (I:=I) (n:=n) (xs:=xs) (by simp_all);simp only [zC,List.replicate_succ,V.reps,V.rep] at this ⊢;simp_all
 | 0,_::_,h=>by simp at h
 | _+1,[],h=>by simp at h
def Uh (p:Prop) [Decidable p] (A B:Prop):Prop:=if p then A else B
def ZE (S:St) (d:Option Nat) (k j:Nat) (s:V) (m:Nat) (fs:List V) (K:St->Prop):Prop :=
 match s with
 | .lit (.slice none 0 0)=>Uh (m=0) (K (S.put d s)) (m * j<=140737488355328/\∀ b c,b ∉ qL S.boxes S.rows->m<=c->K ((S.addBox b (fs++zC ((c - m) * k))).put d (.lit (.slice (some ⟨b,0,none⟩) m c))))
 | .lit (.slice (some ⟨b,o,none⟩) n c)=>match zF S.boxes b with
  | some a=>o+c * k<=a.length/\n<=c/\Uh (n+m<=c) (K ((S.setBoxes (kZ S.boxes b (a.take (o+n * k)++fs++a.drop (o+n * k+m * k)))).put d (.lit (.slice (some ⟨b,o,none⟩) (n+m) c))))
    ((n+m) * j<=140737488355328/\∀ e h,e ∉ qL S.boxes S.rows->n+m<=h->K ((S.addBox e ((a.drop o).take (n * k)++fs++zC ((h - (n+m)) * k))).put d (.lit (.slice (some ⟨e,0,none⟩) (n+m) h))))
  | none=>False
 | _=>False
def ZD (P:Program) (S:St) (d:Option Nat) (t j:TypeId) (s x:V) (K:St->Prop):Prop :=
 match P.underlying t with
 | some (.slice e)=>match zK P e,QN P e,kG P e with
  | some k,some a,some z=>0 < a/\z.length=k/\yx (z.map .lit)=true/\Xr P S j k x fun m h=>ZE S d k a s m h K
  | _,_,_=>False
 | _=>False
theorem qxp {P:Program} {e:TypeId} {k a:Nat} {z:List Value} (d:zK P e=some k) (n:QN P e=some a) (h:kG P e=some z):∃ i,P.info? e=some i/\i.size=k/\i.bytes=a/\∃ j,i.zero=some j/\j.cells.toList=z:=by
 replace d:=uM d;unfold QN at n;replace h:=X0 h;cases o:P.info? e with
 | none=>simp_all
 | some i =>
  simp_all
theorem Kh {z:List Value} (h:yx (z.map .lit)=true):∀ x ∈ z,one x:=jz (w:=default) (I:=fun _ _=>False) (xg z) (jL h)
theorem yk {z:Array Value} {n:Nat} {x:Value} (a:x ∈ (Builtin.zeroCells z n).toList):x ∈ z.toList:=by
 simp only [Builtin.zeroCells,Array.toList_map,Array.toList_range,x9,qHj] at a;obtain⟨i,e,rfl⟩:=a;have d:0 < z.size:=by
  rcases qOz z.size with h | h
  ·simp_all
  ·exact h
 have:i % z.size < z.size:=qPf _ d;simp_all
theorem Γ.boxedS {C S a w I} (h:Γ C S a w I) (d:Option Nat) (hd:∀ i,d=some i->i < C.N) (arr:Array Value) (e:TyB) (cs:List V) (n c:Nat) (j:∀ x ∈ arr.toList,one x) (k:V.reps w I cs arr.toList) :
  Γ C ((S.addBox w.heap.size cs).put d (.lit (.slice (some ⟨w.heap.size,0,none⟩) n c))) (a.put d (.slice (some ⟨w.heap.size,0,none⟩) n c)) (w.alloc (.cells arr e.1)) I :=
 ⟨(h.1.mono (qV.new (.cells arr e.1) h.2.heap.inn).stays).put d hd (by rfl),(h.2.box arr e cs j k).put _ _⟩
theorem Γ.drew {C S a w I} (h:Γ C S a w I):Γ C S a w.drew I :=
 ⟨h.1.mono (qV.drew (fun _=>True) w I).stays,h.2.quiet (fun _=>True) (fun _ _=>trivial) (qV.drew _ w I) h.2.heap.inn⟩
theorem UP {C S} {o:Oper} {c:Call} {s x:Operand} {t G:TypeId} {K:St->Prop} (ho:o.op=.call c) (hc:c.callee=.builtin .append) (ha:c.args.toList=[s,x]) (ht:c.argTypes.toList=[t,G]) (hd:zH C.N o=true)
  (h:ZD C.P S o.dst t G (VL.ev S.σ s) (VL.ev S.σ x) K):zQ C S o K:=by
 have ag:c.args=#[s,x]:=by rw [<-qA3 (xs:=c.args),ha]
 have au:c.argTypes=#[t,G]:=by rw [<-qA3 (xs:=c.argTypes),ht]
 unfold ZD at h;split at h
 ·rename_i e hu;split at h
  ·rename_i k aw z hk aj hz;obtain⟨ai,av,aq,h⟩:=h;obtain⟨m,U,h,src⟩:=US h;obtain⟨i,hi,rfl,rfl,Y,al,rfl⟩:=qxp hk aj hz;have aF:Y.cells.size=i.size:=by simpa using av
   have ap:=Kh aq;refine zQ.of_value fun a w I q=>?_;obtain⟨news,n1,n2,F,_⟩:=src.get w I _ q.2 (q.ev x);have ae:=F.newsLen;have ay:U.length=m * i.size:=by rw [<-ae,qM n1]
   have runs:∀ y H,(Builtin.append_ #[t,G] o.type #[a.eval s,a.eval x]).run C.P w=.ok y H->(execOp a.eval o).run C.P w=.ok (.value y) H:=fun y H hr=>by
    simp only [execOp,ho,resolve,hc,ag,au];simp [invoke,builtin,hr]
   have grow:∀ (R:Option Addr) (n d:Nat) (olds:List Value) (W:List V),a.eval s=.slice R n d->(Builtin.firstCells i.size n (.slice R n d)).run C.P w.drew=.ok olds.toArray w.drew->V.reps w I W olds->(∀ u ∈ olds,one u) ->
     olds.length=n * i.size->d < n+m->(n+m) * i.bytes<=140737488355328->(∀ J L,J ∉ qL S.boxes S.rows->n+m<=L->K ((S.addBox J (W++U++zC ((L - (n+m)) * i.size))).put o.dst (.lit (.slice (some ⟨J,0,none⟩) (n+m) L)))) ->
     ∃ y H S' I',(execOp a.eval o).run C.P w=.ok (.value y) H/\Γ C S' (a.put o.dst y) H I'/\K S':=by
    intro R n d olds W D ao ar aE aD hg ab M;have aB:n+m<=140737488355328:=km (qOj _ ai) ab;have Q:=run_append_grow_src (P:=C.P) w t G o.type e i Y hu hi al R n d olds ao (a.eval x) m news F hg (by omega) (growslice_fits (by omega) ab);rw [<-D] at Q;have ac:=q.drew;refine⟨_,_,_,I,runs _ _ Q,?_,M _ (grownCap w (n+m) d e) (by simpa using ac.2.fresh) (grownCap_ge w (n+m) d e)⟩;have:=ac.boxedS o.dst (qz hd) ((olds++news).toArray++Builtin.zeroCells Y.cells (grownCap w (n+m) d e - (n+m))) ⟨e,qbs hk⟩ (W++U++zC ((grownCap w (n+m) d e - (n+m)) * i.size)) (n+m) (grownCap w (n+m) d e)
     (fun u p=>by
      simp only [qPo,z6] at p;rcases p with(p | p) | p
      ·simp_all
      ·simp_all
      ·exact ap u (yk p))
     (by
      have af:=(qV.drew (fun _=>True) w I).stays;simp only [qPo];refine qC (qC (V.reps_mono af _ _ ar) (V.reps_mono af _ _ n1)) (uR ?_);have:=JH Y.cells (grownCap w (n+m) d e - (n+m));simp_all)
    simpa using this
   unfold ZE at h;split at h
   ·rename_i D;have A:=q.ev s;rw [D] at A;simp only [V.rep] at A;unfold Uh at h;split at h
    ·rename_i O;subst O;have am:news=[]:=qL2 (by omega);subst am;refine⟨_,w,_,I,runs (.slice none 0 0) w ?_,⟨q.1.put o.dst (qz hd) (v:=VL.ev S.σ s) (by rw [D];rfl),q.2.put _ _⟩,h⟩;rw [A];rcases F.kind with⟨e',ad⟩ | ad <;> simp [Builtin.append_,run_underlying hu,run_underlying ad,sizeOf,typeInfo,hi,F.len,F.cells]
    ·rename_i O;obtain⟨Z,M⟩:=h;have:=grow none 0 0 [] [] A (run_firstCells_none w.drew i.size 0 0 0) (by simp [V.reps]) (by simp) (by simp) (by omega) (by simpa using Z) (fun J L ah ax=>by simpa using M J L ah (by omega));omega
   ·rename_i b off n d D;split at h
    ·rename_i T hb;obtain⟨aA,an,h⟩:=h;have A:=q.ev s;rw [D] at A;simp only [V.rep] at A;have O:=xq hb;obtain⟨arr,te,q1,q2,X,q4⟩:=q.2.heap.bx _ O;have az:arr.size=T.length:=by have:=qM X;simpa using this
     have aC:n * i.size<=d * i.size:=qG4 _ an;unfold Uh at h;split at h
     ·rename_i aa;have ak:off+n * i.size+news.length<=arr.size:=by
       have:(n+m) * i.size<=d * i.size:=qG4 _ aa;rw [uu] at this;omega
      have Q:=yT (P:=C.P) w t G o.type e i hu hi b off n d (a.eval x) m news F aa arr te.1 q1 ak;rw [<-A] at Q;obtain⟨hW,hS⟩:=q.2.write (ds:=T.take (off+n * i.size)++U++T.drop (off+n * i.size+m * i.size)) (arr':=(arr.toList.take (off+n * i.size)++news++arr.toList.drop (off+n * i.size+news.length)).toArray) (x9.2 ⟨_,O,rfl⟩) q1
       (fun u p=>by
        simp only [z6] at p;rcases p with(p | p) | p
        ·exact q2 u (qAq p)
        ·exact n2 u p
        ·exact q2 u (qEu p))
       (by rw [ae];exact qC (qC (xD _ X) n1) (xt _ X))
      exact⟨_,_,_,I,runs _ _ Q,⟨(q.1.mono hS).put o.dst (qz hd) (by rfl),hW.put _ _⟩,h⟩
     ·rename_i aa;obtain⟨Z,M⟩:=h;refine grow (some ⟨b,off,none⟩) n d ((arr.toList.drop off).take (n * i.size)) ((T.drop off).take (n * i.size)) A ?_ (xD _ (xt _ X)) (fun u p=>q2 u (qEu (qAq p))) (by simp;omega) (by omega) Z M;refine run_firstCells_some w.drew i.size n ⟨b,off,none⟩ n d _ (by simp;omega) fun j u N=>?_;rw [Addr.add_lit];rw [qLd] at N;split at N
      ·rw [qOm] at N;have:w.drew.heap[b]? = some (.cells arr te.1 (0,0)):=q1;simp only [World.cell?, this,Option.isSome_none,kA,if_false];simpa using N
      ·cases N
    ·exact h.elim
   ·exact h.elim
  simp_all
 simp_all
end Go.VL
