/- Merged out of my texts VQ VF VG VJ. -/
import Derived.Test.YtkdgbjhbpbgdeaaGreatDoorKA
import Derived.Test.YtkdgbjhbpbgdeaaGreatDoorKVc
import Derived.Shelf.SlSortCmp.NoneTotal
import Derived.ChangeArms
import Derived.OpenShut
import Derived.ProofKit
import Derived.Test.YtkdgbjhbpbgdeaaGreatDoorKVa
import Derived.WideKeyArgs
import Derived.Below
set_option linter.unusedSimpArgs false
set_option linter.unusedVariables false
namespace Go.VL
open Go.RowKit Go.Sort Go.Shelf Go.Lib Go.Proofs
theorem qkq {W a:World} {I j:Cells} (h:qV (fun b=>b < W.heap.size/\b ∉ ([]:Bx).map (·.1)) W I a j):∃ q p,a=grow (W.drewN q) p:=by
 refine⟨a.drawn - W.drawn,a.heap.extract W.heap.size a.heap.size,?_⟩;have w:a.heap=W.heap++a.heap.extract W.heap.size a.heap.size:=by
  apply Array.ext_getElem?;intro i;have x:=h.size;rcases qNb i W.heap.size with d | d
  ·rw [h.block i ⟨d,by simp⟩,qN8 d]
  ·rw [Array.getElem?_append_right d];rcases qNb i a.heap.size with e | e
   ·rw [qPv e,qPv (by simp;omega)];simp_all
   simp_all
 have k:=h.os;have n:=h.tape;have o:=h.output;have u:=h.drawn rfl;cases a;cases W;simp only [grow,World.drewN] at *;subst k n o;congr 1;omega
section
variable {α:Type} [Inhabited α] (enc:α->List Value) (k:Nat) (w:World) (b m:Nat) (dk:Array α) (os:Array Obj)
theorem qBp {arr:Array Value} {a:TypeId} (hb:w.heap[b]? = some (.cells arr a (0,0))):(sortWorldK enc k w b 0 m dk os).heap[b]? = some (.cells (putCells id 0 (flatK enc k dk) arr) a (0,0)):=by
 have d:b < w.heap.size:=(vx.1 hb).1;unfold sortWorldK putRowK putRow mapBlock grow Go.Sort.ahead;simp only [];rw [qN8 (by simp_all),qPb,if_pos rfl,hb];rfl
theorem Ye {a:Nat} (h:a ≠ b) (d:a < w.heap.size):(sortWorldK enc k w b 0 m dk os).heap[a]? = w.heap[a]? := by
 unfold sortWorldK putRowK putRow mapBlock grow Go.Sort.ahead;simp only [];rw [qN8 (by simp_all),qPb,if_neg (fun e=>h e.symm)]
theorem qBo:w.heap.size<=(sortWorldK enc k w b 0 m dk os).heap.size:=by
 unfold sortWorldK putRowK putRow mapBlock grow Go.Sort.ahead;simp
theorem qee {I:Cells} (F:Nat->Prop) (n:∀ a,F a->a ≠ b/\a < w.heap.size) (u:∀ o,¬ I b o) (y:∀ a o,I a o->a < w.heap.size) (hd:∀ x,w.heap[b]? ≠ some (.deferred x)):qV F w I (sortWorldK enc k w b 0 m dk os) I :=
 ⟨rfl,rfl,rfl,qBo enc k w b m dk os,fun a p=>Ye enc k w b m dk os (n a p).1 (n a p).2,⟨fun a o d=>⟨d,by
  have j:a ≠ b:=fun e=>u o (e▸d);simp only [World.cell?, Ye enc k w b m dk os j (y a o d)]⟩,fun a x q=>by
  have j:a ≠ b:=fun e=>hd x (e▸q);rw [Ye enc k w b m dk os j (vx.1 q).1];omega⟩,fun _ _ _ h=>h,by
  unfold sortWorldK putRowK putRow mapBlock grow Go.Sort.ahead;simp⟩
end
theorem Y1 {α:Type} [Inhabited α] (enc:α->List Value) {k:Nat} (n:∀ x,(enc x).length=k) (d:Array α):(flatK enc k d).toList=d.toList.flatMap enc:=by
 have main:∀ l:List α,(List.range (l.length * k)).map (fun t=>(enc (l.getD (t / k) default)).getD (t % k) default)=l.flatMap enc:=by
  intro l
  induction l with
  | nil=>simp
  | cons x l o =>
   rw [qKg,uu,qOo,qQu,List.range_add,k8,List.flatMap_cons,qN5,<-o];congr 1
   ·refine qPd (by simp [n]) fun t e j=>?_;have a:t < k:=by simpa using e
    simp [Nat.div_eq_of_lt a,Nat.mod_eq_of_lt a,List.getD,j]
   ·refine qLu fun t a=>?_;have p:0 < k:=by
     rcases qOz k with h | h
     ·simp_all
     ·exact h
    simp_all
 rw [<-main d.toList];unfold flatK;simp only [Array.toList_map,Array.toList_range,Array.length_toList];refine qLu fun t _=>?_;simp [Array.getElem!_eq_getD,List.getElem!_eq_getElem?_getD,List.getD,qOs]
theorem Uc (F arr:Array Value) (h:F.size<=arr.size):(putCells id 0 F arr).toList=F.toList++arr.toList.drop F.size:=by
 refine qPd (by simp [putCells];omega) fun t a e=>?_;have j:t < arr.size:=by simpa [putCells] using a
 simp only [putCells,Array.getElem_toList,Array.getElem_mapIdx,qJ0,KM,true_and,Nat.sub_zero,id];by_cases d:t < F.size
 ·simp_all
 ·rw [if_neg d,List.getElem_append_right (by simp_all)];simp only [List.getElem_drop,Array.getElem_toList,Array.length_toList];congr 1;omega
theorem qg9 (xs:List Value) (k:Nat):∀ n,(List.range n).flatMap (fun i=>(xs.drop (i * k)).take k)=xs.take (n * k)
 | 0=>by simp
 | n+1=>by
  rw [List.range_succ,List.flatMap_append,qg9 xs k n,uu,qOo,List.take_add];simp
def Z6 (n:Nat):List (Fin n):=List.ofFn fun i=>i
theorem Zs (n:Nat):(Z6 n).length=n:=by simp [Z6]
theorem qx9 (n:Nat):(Z6 n).map Fin.val=List.range n:=by
 refine qPd (by simp [Z6]) fun i a d=>by simp [Z6]
theorem qDw {α:Type} (l:List α):(Z6 l.length).map (fun i=>l[i])=l:=by
 refine qPd (by simp [Z6]) fun i a d=>by simp [Z6]
theorem Ok.sortFunc {P:Program} {H:Ren} (L:SlLaysF0.n6 P H) {k:Nat} (aE:∀ w,(isAgg (H.t 24)).run P w=.ok true w) (zE:∀ w,(Go.sizeOf (H.t 24)).run P w=.ok k w)
  {α:Type} (c:α->List V) (hc:∀ x,(c x).length=k) (C:α->α->Int) (J:SWO (ltOf C)) {g:FuncId} (eg:∀ args w,(callFunc g args).run P w=.ok (.enter g args) w)
  (l:List α) (ag:∀ x ∈ l,∀ y ∈ l,zk P g [.agg (c x),.agg (c y)] (.lit (.int .i64 (C x y)))) (rest:List V) (b cap:Nat) (ap:l.length < 4611686018427387904) :
  Ok P (H.f 6) [.lit (.slice (some ⟨b,0,none⟩) l.length cap),.lit (.func (.func g) #[] #[])] [(b,.c ((l.map c).flatten++rest))] fun v bs rs =>
   v=.tup []/\rs=[]/\∃ S:List α,S.Perm l/\S.Pairwise (fun x y=>¬ C y x < 0)/\bs=[(b,.c ((S.map c).flatten++rest))]:=by
 intro w I xs hr q;obtain rfl:xs=[.slice (some ⟨b,0,none⟩) l.length cap,.func (.func g) #[] #[]]:=qcc hr;obtain⟨arr,te,T,q2,U,W⟩:=q.bx _ (kl.2 rfl);have af:b < w.heap.size:=(vx.1 T).1;have aj:∀ l:List α,(l.map c).flatten.length=l.length * k:=fun l=>by
  induction l with
  | nil=>simp
  | cons x l R=>simp only [z7,List.flatten_cons,zr,hc,R,List.length_cons,uu,qOo];omega
 have ae:arr.size=l.length * k+rest.length:=by have:=qM U;simpa [aj] using this
 have tup:V.rep w I (.tup []) (.tuple #[]):=by simp only [V.rep];exact⟨#[],rfl,by simp [V.reps]⟩
 by_cases h0:l.length=0
 ·have hl:l=[]:=qL2 h0;subst hl;refine(AnyF.slices_SortFunc_none L (some ⟨b,0,none⟩) cap (.func (.func g) #[] #[]) w).mono fun e w' ⟨D,Q⟩=>?_;subst Q;exact⟨_,.tup [],_,[],I,D,tup,qV.refl _ _ _,q,fun d M h=>h.2 (by assumption),rfl,rfl,[],zp _,List.Pairwise.nil,rfl⟩
 ·haveI:Inhabited (Fin l.length):=⟨⟨0,by omega⟩⟩
  let enc:Fin l.length->List Value:=fun i=>(arr.toList.drop (i.val * k)).take k
  have N:∀ i,(enc i).length=k:=fun i=>by
   have:(i.val+1) * k<=l.length * k:=qG4 _ i.isLt;simp only [enc,kB,qA8,Array.length_toList,ae,uu,qOo] at this ⊢;omega
  have O:∀ i:Fin l.length,V.reps w I (c l[i]) (enc i):=fun i=>by
   have:=xD k (xt (i.val * k) U);rw [qsv hc l rest i.val i.isLt] at this;omega
  have Z:∀ i,∀ v ∈ enc i,one v:=fun i v A=>q2 v (qEu (qAq A));have ad:SWO (ltOf fun i j:Fin l.length=>C l[i] l[j]):=⟨fun x=>J.irrefl l[x],fun x y z=>J.trans l[x] l[y] l[z],fun x y z=>J.ntrans l[x] l[y] l[z]⟩;have ai:((Z6 l.length).toArray.toList).flatMap enc=arr.toList.take (l.length * k):=by
   rw [<-qg9 arr.toList k l.length,<-qx9,List.flatMap_map]
  have ac:HoldsK enc k w b 0 (Z6 l.length).toArray:=by
   intro j G;have aq:j < l.length * k:=by simpa [Zs] using G
   have ak:(flatK enc k (Z6 l.length).toArray)[j]! = arr[j]'(by omega):=by
    rw [getElem!_pos _ j G,<-Array.getElem_toList];simp only [Y1 enc N,ai,List.getElem_take,Array.getElem_toList]
   rw [ak];simp [World.cell?, World.frozen?, T,show j < arr.size by omega]
  have aa:CmpLays P g #[] enc k (fun i j:Fin l.length=>C l[i] l[j]) b 0 (Z6 l.length).toArray.size w:=by
   intro m os dk _ x y;have n:=qee enc k w b m dk os (I:=I) (fun d=>d ≠ b/\d < w.heap.size) (fun _ h=>h) W q.inn (fun x e=>by simp_all);refine(ag l[x] (zs _) l[y] (zs _) (sortWorldK enc k w b 0 m dk os) I [.agg (enc x).toArray,.agg (enc y).toArray] ?_ ?_).mono fun e w' ⟨v,_,_,_,I',D,A,hk,_,_,hQ,_,_⟩=>?_
   ·simp only [V.reps,V.rep,and_true];exact⟨⟨_,rfl,V.reps_mono n.stays _ _ (O x)⟩,⟨_,rfl,V.reps_mono n.stays _ _ (O y)⟩⟩
   ·exact⟨by simp,by simp,by decide,fun d o F=>qMn (q.inn d o F) n.size,q.glob.mono n.stays⟩
   ·rw [hQ] at A;simp only [V.rep] at A;exact⟨by simp_all,qkq hk⟩
  have Y:=(AnyQ.slices_SortFunc L k aE zE enc N (fun i v A=>vl (Z i v A)) _ ad g #[] b 0 cap (Z6 l.length).toArray w eg aa ac af (by simpa [Zs] using ap));rw [show (Z6 l.length).toArray.size=l.length by simp [Zs]] at Y;refine Y.mono fun e w' ⟨D,a,m,os,hp,hs,Q⟩=>?_;subst Q;have n:=qee enc k w b m a os (I:=I) (fun d=>d < w.heap.size/\d ∉ ([(b,B.c ((l.map c).flatten++rest))]:Bx).map (·.1)) (fun d M=>⟨by simp_all,M.1⟩) W q.inn (fun x e=>by simp_all);have ah:a.size=l.length:=by rw [hp.1];simp [Zs]
  have ao:a.toList.Perm (Z6 l.length):=by
   have:=hp.2.2;rw [qRb (by omega),qRb (by simp [Zs])] at this;simpa using this
  have hF:(flatK enc k a).toList=a.toList.flatMap enc:=Y1 enc N a;have ab:(flatK enc k a).size=l.length * k:=by rw [size_flatK,ah]
  have K:=Uc (flatK enc k a) arr (by omega);rw [hF,ab] at K;refine⟨.tuple #[],.tup [],[(b,.c (((a.toList.map fun i=>l[i]).map c).flatten++rest))],[],I,D,by simp only [V.rep];exact⟨#[],rfl,by simp [V.reps]⟩,n,⟨fun p an=>?_,by simp,by simp [qL],fun d o F=>qMn (q.inn d o F) n.size,q.glob.mono n.stays⟩,fun d M h=>h.2 (by assumption),rfl,rfl,_,?_,?_,rfl⟩
  ·rw [kl.1 an];refine⟨_,te,qBp enc k w b m a os T,fun x u=>?_,?_,W⟩
   ·rw [K] at u;rcases z6.1 u with u | u
    ·obtain⟨i,_,u⟩:=List.mem_flatMap.1 u;exact Z i x u
    ·exact q2 x (qEu u)
   ·rw [K];refine V.reps_mono n.stays _ _ (qC ?_ ?_)
    ·generalize a.toList=X
     induction X with
     | nil=>simp [V.reps]
     | cons i X R =>
      simp only [z7,List.flatten_cons,List.flatMap_cons];exact qC (O i) R
    ·have:=xt (l.length * k) U;simp_all
  ·have:=ao.map fun i=>l[i];rwa [show (Z6 l.length).map (fun i=>l[i])=l from qDw l] at this
  ·rw [List.pairwise_map,qRg];intro i j F G al;have am:j < a.size:=by simpa using G
   have:=hs i j (KM _) al (by omega);rw [getElem!_pos a j am,getElem!_pos a i (by omega)] at this;simpa [ltOf] using this
theorem Ok.sortNil {P:Program} {a:Ren} (L:SlLaysF0.n6 P a) (cap:Nat) (fv:Value):zk P (a.f 6) [.lit (.slice none 0 cap),.lit fv] (.tup []):=by
 intro w I n j d;obtain rfl:n=[.slice none 0 cap,fv]:=qcc j;refine(AnyF.slices_SortFunc_none L none cap fv w).mono fun e o ⟨h,k⟩=>?_;subst k;exact⟨_,.tup [],[],[],I,h,by simp only [V.rep];exact⟨#[],rfl,by simp [V.reps]⟩,qV.refl _ _ _,d,by simp [qL],rfl,rfl,rfl⟩
open Go.ChangeShapes Go.WideShapes
mutual
def V.bulk:V->Nat
 | .lit (.string s)=>s.size+1
 | .list _ _ es=>V.bulkss es+1
 | _=>1
def V.bulks:List V->Nat
 | []=>0
 | v::r=>V.bulk v+V.bulks r
def V.bulkss:List (List V)->Nat
 | []=>0
 | e::r=>V.bulks e+V.bulkss r
end
mutual
def wK {H:Type}:DataW H->Nat
 | .lit (.string bytes)=>bytes.length+1
 | .lit _=>1
 | .nil=>1
 | .ptr d=>wK d+1
 | .slice elems spare=>bulkDs elems+bulkDs spare+1
 | .agg parts=>bulkDs parts+1
 | .iface _ d=>wK d+1
 | .map entries=>bulkDe entries+1
 | .held _=>1
def bulkDs {H:Type}:List (DataW H)->Nat
 | []=>0
 | d::r=>wK d+bulkDs r
def bulkDe {H:Type}:List (Lit × DataW H)->Nat
 | []=>0
 | x::r=>bulkDx x+bulkDe r
def bulkDx {H:Type}:Lit × DataW H->Nat
 | (.string bytes,d)=>bytes.length+wK d+1
 | (_,d)=>wK d+1
end
theorem QE:∀ (a b:List V),V.bulks (a++b)=V.bulks a+V.bulks b
 | [],b=>by simp [V.bulks]
 | v::a,b=>by simp [V.bulks,QE a b,qP1]
def TVF (f:TypeId->List V->Prop):List Field->List V->Prop
 | [],vs=>vs=[]
 | fd::r,vs=>∃ a b,vs=a++b/\f fd.type a/\TVF f r b
def TV (P:Program):Nat->TypeId->List V->Prop
 | 0,_,_=>False
 | d+1,t,vs=>match P.underlying t with
  | some .bool=>∃ b,vs=[.lit (.bool b)]
  | some (.int k)=>∃ n,vs=[.lit (.int k n)]/\(Lit.int k n).wf=true
  | some .string=>∃ s:ByteArray,vs=[.lit (.string s)]/\s.size<=maxLen
  | some (.slice e)=>vs=[.lit (.slice none 0 0)]∨∃ es,vs=[.list none (P.cellsOf e) es]/\es.length<=maxLen/\∀ x ∈ es,TV P d e x
  | some (.array n e)=>∃ a:List (List V),a.length=n/\(∀ x ∈ a,TV P d e x)/\vs=a.flatten
  | some (.struct fs)=>TVF (TV P d) fs.toList vs
  | _=>False
def qf7 (P:Program) (f:TypeId->Bool):Nat->List Field->Option Nat
 | o,[]=>some o
 | o,fd::r=>if fd.offset=o/\f fd.type=true then qf7 P f (o+P.cellsOf fd.type) r else none
section
variable {P:Program} {w:World} {I:Cells} {H:Type} {enc:TypeId × Value->H} {base:Nat} {spare:Nat->Bool} {held:Bool}
theorem Ql {a b:List V} {xs d:List Value} (h:V.reps w I a xs) (e:V.reps w I b d):V.reps w I (a++b) (xs++d):=qC h e
def Put (P:Program) (w:World) (I:Cells) (d:Nat) (t:TypeId) (cs:List Value) (n:Nat):Prop :=
 ∃ a,V.reps w I a cs/\TV P d t a/\a.length=P.cellsOf t/\(∀ c ∈ cs,one c)/\V.bulks a<=n
theorem Y4 {d n:Nat} {g:TypeId->Bool} (k:∀ t cs (x:DataW H × List MemPlace),g t=true->DataW.trod enc P w base spare held n t cs=some x->Put P w I d t cs (wK x.1)) (cs:List Value) :
  ∀ (fs:List Field) (o e:Nat) (xs:List (DataW H × List MemPlace)),qf7 P g o fs=some e->xs.length=fs.length->cs.length=e ->
   (∀ (i:Nat) (f:Field),fs[i]? = some f->DataW.trod enc P w base spare held n f.type ((cs.drop f.offset).take (P.cellsOf f.type))=xs[i]?) ->
   ∃ vs,V.reps w I vs (cs.drop o)/\TVF (TV P d) fs vs/\o+vs.length=e/\(∀ c ∈ cs.drop o,one c)/\V.bulks vs<=bulkDs (xs.map (·.1))
 | [],o,e,xs,hg,_,hl,_=>by
  simp only [qf7,qAo] at hg;subst hg;refine⟨[],?_,rfl,by simp,?_,by simp [V.bulks]⟩
  ·rw [qFs (by omega)];simp [V.reps]
  ·rw [qFs (by omega)];simp
 | fd::r,o,e,[],hg,hx,_,_=>by simp at hx
 | fd::r,o,e,x::xs,hg,hx,hl,hd=>by
  simp only [qf7] at hg;split at hg
  ·rename_i hc;obtain⟨q,u⟩:=hc;have a:=hd 0 fd rfl;simp only [List.getElem?_cons_zero,q] at a;obtain⟨p,r0,t0,G,y,C⟩:=k _ _ _ u a;obtain⟨vs,A,t1,J,z,D⟩:=Y4 k cs r (o+P.cellsOf fd.type) e xs hg (by simp_all) hl fun i f F=>by simpa using hd (i+1) f (by simp_all)
   have j:cs.drop o=(cs.drop o).take (P.cellsOf fd.type)++cs.drop (o+P.cellsOf fd.type):=by rw [<-qK1,qBq]
   refine⟨p++vs,?_,⟨p,vs,rfl,t0,t1⟩,by simp only [zr];omega,?_,?_⟩
   ·rw [j];exact Ql r0 A
   ·rw [j];intro c hc;rcases z6.1 hc with h | h
    ·exact y c h
    ·exact z c h
   ·simp only [QE,z7,bulkDs];omega
  simp_all
theorem qak {d n:Nat} {g:TypeId->Bool} (z:∀ t cs (x:DataW H × List MemPlace),g t=true->DataW.trod enc P w base spare held n t cs=some x->Put P w I d t cs (wK x.1)) {e:TypeId} (q:g e=true) (cs:List Value) :
  ∀ (m j:Nat) (xs:List (DataW H × List MemPlace)),xs.length=m->cs.length=(j+m) * P.cellsOf e->(∀ i,i < m->DataW.trod enc P w base spare held n e ((cs.drop ((j+i) * P.cellsOf e)).take (P.cellsOf e))=xs[i]?) ->
   ∃ a:List (List V),a.length=m/\(∀ x ∈ a,TV P d e x/\x.length=P.cellsOf e)/\V.reps w I a.flatten (cs.drop (j * P.cellsOf e))/\(∀ c ∈ cs.drop (j * P.cellsOf e),one c)/\V.bulks a.flatten<=bulkDs (xs.map (·.1))
 | 0,j,xs,_,k,_=>by
  rw [qRw] at k;refine⟨[],rfl,by simp,?_,?_,by simp [V.bulks]⟩
  ·rw [qFs (by omega)];simp [V.reps]
  ·rw [qFs (by omega)];simp
 | m+1,j,[],hx,_,_=>by simp at hx
 | m+1,j,x::xs,hx,k,hd=>by
  have p:=hd 0 (by omega);simp only [Nat.add_zero,List.getElem?_cons_zero] at p;obtain⟨J,r0,t0,N,D,K⟩:=z _ _ _ q p;obtain⟨a,C,t1,G,F,L⟩:=qak z q cs m (j+1) xs (by simp_all) (by rw [k];congr 1;omega) fun i M=>by
   have:=hd (i+1) (by omega);rw [show j+(i+1)=j+1+i by omega] at this;simp_all
  have u:cs.drop (j * P.cellsOf e)=(cs.drop (j * P.cellsOf e)).take (P.cellsOf e)++cs.drop ((j+1) * P.cellsOf e):=by
   rw [show (j+1) * P.cellsOf e=j * P.cellsOf e+P.cellsOf e by rw [uu];omega,<-qK1,qBq]
  refine⟨J::a,by simp [C],?_,?_,?_,?_⟩
  ·intro y o;rcases xb.1 o with rfl | o
   ·exact qD
   ·exact t1 y o
  ·rw [qKs,u];exact Ql r0 G
  ·rw [u];intro c A;rcases z6.1 A with h | h
   ·exact D c h
   ·exact F c h
  ·simp only [List.flatten_cons,QE,z7,bulkDs];omega
theorem UT {d n c b o:Nat} {g:TypeId->Bool} (q:∀ b o x,w.cell? ⟨b,o,none⟩=some x->I b o) (A:∀ t cs (x:DataW H × List MemPlace),g t=true->DataW.trod enc P w base spare held n t cs=some x->Put P w I d t cs (wK x.1)) {e:TypeId} (u:g e=true) (hc:P.cellsOf e=c) :
  ∀ (m j:Nat) (a:List (DataW H × List MemPlace)),a.length=m ->
   (∀ i,i < m->(w.cells? base ((⟨b,o,none⟩:Addr).add ((j+i) * c)) c).bind (DataW.trod enc P w base spare held n e)=a[i]?) ->
   ∃ (es:List (List V)) (xs:List Value),es.length=m/\(∀ x ∈ es,TV P d e x/\x.length=c)/\V.reps w I es.flatten xs/\(∀ i x,xs[i]? = some x->w.cell? ⟨b,o+j * c+i,none⟩=some x/\I b (o+j * c+i)/\one x)/\V.bulkss es<=bulkDs (a.map (·.1))
 | 0,j,a,_,_=>⟨[],[],rfl,by simp,by simp [V.reps],by simp,by simp [V.bulkss]⟩
 | m+1,j,[],hx,_=>by simp at hx
 | m+1,j,x::a,hx,hd=>by
  have k:=hd 0 (by omega);simp only [Nat.add_zero,List.getElem?_cons_zero,qOi] at k;obtain⟨cs,D,k⟩:=k;obtain⟨K,r0,t0,O,G,L⟩:=A _ _ _ u k;obtain⟨_,N,C⟩:=World.cells?_some D;obtain⟨es,xs,F,t1,J,c1,M⟩:=UT q A u hc m (j+1) a (by simp_all) fun i z=>by
   have:=hd (i+1) (by omega);rw [show j+(i+1)=j+1+i by omega] at this;assumption
  refine⟨K::es,cs++xs,by simp [F],?_,?_,?_,?_⟩
  ·simp_all
  ·rw [qKs];exact Ql r0 J
  ·intro i y h;rw [qQe] at h;split at h
   ·rename_i z;have p:=C i (by omega);rw [add_plain,add_plain,h] at p;exact⟨p,q _ _ _ p,G y (qMm h)⟩
   ·rename_i z;have:=c1 (i - cs.length) y h;rwa [show o+(j+1) * c+(i - cs.length)=o+j * c+i by rw [uu];omega] at this
  ·simp only [V.bulkss,z7,bulkDs];omega
end
def TA (P:Program) (d:Nat) (t:TypeId) (a:V):Prop:=match xO P t with
 | some true=>∃ e,a=.agg e/\TV P d t e
 | some false=>TV P d t [a]
 | none=>False
def TAs (P:Program) (d:Nat):List TypeId->List V->Prop
 | [],[]=>True
 | t::ts,a::az=>TA P d t a/\TAs P d ts az
 | _,_=>False
theorem TAs.cons {P:Program} {d:Nat} {t:TypeId} {e:List TypeId}:∀ {l:List V},TAs P d (t::e) l->∃ a r,l=a::r/\TA P d t a/\TAs P d e r
 | [],h=>h.elim
 | a::r,h=>⟨a,r,rfl,h.1,h.2⟩
theorem TAs.nil {P:Program} {d:Nat}:∀ {l:List V},TAs P d [] l->l=[]
 | [],_=>rfl
 | _::_,h=>h.elim
def V.bulkA:V->Nat
 | .agg vs=>V.bulks vs
 | v=>V.bulk v
def V.bulkAs:List V->Nat
 | []=>0
 | v::r=>V.bulkA v+V.bulkAs r
section
variable {P:Program} {w:World} {I:Cells} {H:Type} {enc:TypeId × Value->H}
theorem qbf (k:laidOutB P=true) {W j:World} (hb:Below W.heap.size W j) {sp:Nat->Bool}:∀ {e:List TypeId} {vs:List Value} {ds:List (DataW H)} {ps:List MemPlace},
  (∀ t ∈ e,P.readableRec t=true/\t < P.types.size)->(∀ p ∈ ps,p.block < W.heap.size)->(∀ p ∈ ps,sp p.block=true)->DataW.TrodAll enc P W 0 (fun _=>true) true e vs ds ps->DataW.TrodAll enc P j 0 sp true e vs ds ps
 | [],vs,ds,ps,_,_,_,h=>by
  obtain⟨rfl,rfl,rfl⟩:=trodAll_nil h;exact h
 | t::e,vs,ds,ps,hr,hlt,hsp,h=>by
  obtain⟨v,y,w,x,a,b,rfl,rfl,rfl,n,o⟩:=trodAll_cons h;refine⟨a,b,?_,?_,rfl⟩
  ·exact WideElems.Trod_stays k (hr t x6).1 (hr t x6).2 n (fun p d=>hb.same (hlt p (z6.2 (.inl d)))) fun p d=>hsp p (z6.2 (.inl d))
  ·exact qbf k hb (fun u q=>hr u (z8 _ q)) (fun p d=>hlt p (z6.2 (.inr d))) (fun p d=>hsp p (z6.2 (.inr d))) o
end
def qxy (P:Program) (g:TypeId->Bool) (t:TypeId):Bool:=match P.underlying t with
 | some .bool | some (.int _) | some .string=>decide (P.cellsOf t=1)
 | some (.slice e)=>decide (P.cellsOf t=1) && decide (0 < P.cellsOf e) && g e
 | some (.array n e)=>decide (P.cellsOf t=n * P.cellsOf e) && g e
 | some (.struct fs)=>decide (qf7 P g 0 fs.toList=some (P.cellsOf t))
 | _=>false
def qf6 (P:Program) (T:List TypeId):Bool:=T.all (qxy P fun t=>T.contains t)
theorem qxx {P:Program} {T:List TypeId} (h:qf6 P T=true) {t:TypeId} (a:T.contains t=true):qxy P (fun t=>T.contains t) t=true :=
 qNh.1 h t (qRx.1 a)
section
variable {P:Program} {w:World} {I:Cells} {H:Type} {enc:TypeId × Value->H} {base:Nat} {spare:Nat->Bool} {held:Bool}
theorem ZI {T:List TypeId} (F:qf6 P T=true) (D:∀ b o x,w.cell? ⟨b,o,none⟩=some x->I b o):∀ (R:Nat) (t:TypeId) (cs:List Value) (x:DataW H × List MemPlace),T.contains t=true->DataW.trod enc P w base spare held R t cs=some x->Put P w I R t cs (wK x.1)
 | 0,t,cs,x,_,h=>by simp [DataW.trod] at h
 | d+1,t,cs,x,hc,h=>by
  have p:=qxx F hc;unfold qxy at p;split at p
  ·rename_i hu;obtain⟨b,rfl,rfl⟩:=DataW.trod_bool hu h;exact⟨[.lit (.bool b)],by simp [V.reps,V.rep],by simp only [TV,hu];simp,by simp_all,by simp [one],by simp [V.bulks,V.bulk,wK]⟩
  ·rename_i k hu;obtain⟨n,rfl,rfl,hw⟩:=DataW.trod_int hu h;exact⟨[.lit (.int k n)],by simp [V.reps,V.rep],by simp only [TV,hu];simp_all,by simp_all,by simp [one],by simp [V.bulks,V.bulk,wK]⟩
  ·rename_i hu;obtain⟨s,rfl,rfl,hw⟩:=DataW.trod_string hu h;exact⟨[.lit (.string s)],by simp [V.reps,V.rep],by simp only [TV,hu];simp_all,by simp_all,by simp [one],by simp [V.bulks,V.bulk,wK]⟩
  ·rename_i e hu;simp only [k7,decide_eq_true_eq] at p;obtain⟨⟨h1,ae⟩,J⟩:=p;rcases DataW.trod_slice hu h with⟨rfl,rfl⟩ | ⟨a,len,cap,C,rest,n,z,rfl,rfl,hb,K,hm,ad,ac,_,_⟩
   ·exact⟨[.lit (.slice none 0 0)],by simp [V.reps,V.rep],by simp only [TV,hu];simp,by simp_all,by simp [one],by simp [V.bulks,V.bulk,wK]⟩
   ·obtain rfl:d=n:=qRs z;have key:∃ es:List (List V),es.length=len/\(∀ x ∈ es,TV P d e x)/\(es=[]∨∃ b o,some a=some ⟨b,o,none⟩/\V.lies w I (P.cellsOf e) es b o)/\V.bulkss es<=bulkDs (C.map (·.1)):=by
     by_cases hz:len=0
     ·exact⟨[],hz.symm,by simp,.inl rfl,by simp [V.bulkss]⟩
     ·have U:=ac 0 (by omega);have af:∃ y,C[0]? = some y:=⟨C[0]'(by omega),by simp⟩;obtain⟨y,L⟩:=af;rw [L,qOi] at U;obtain⟨O,ab,_⟩:=U;obtain⟨_,ai,aa⟩:=World.cells?_some ab;obtain⟨b,o,spot⟩:=a;have S:=aa 0 ae;obtain⟨N,Z⟩:∃ N,O[0]? = some N:=⟨O[0]'(by omega),by simp⟩;rw [Z] at S;have ag:spot=none:=by
       have:=World.cell?_spot S;cases spot with
       | none=>rfl
       | some q=>simp [Addr.add] at this
      subst ag;obtain⟨es,G,u,t1,M,c1,A⟩:=UT (c:=P.cellsOf e) (b:=b) (o:=o) D (fun t cs x=>ZI F D d t cs x) J rfl len 0 C ad (by simp_all);refine⟨es,u,fun x j=>(t1 x j).1,.inr ⟨b,o,rfl,?_⟩,A⟩;refine je M (fun x j=>(t1 x j).2) fun i x j=>?_;have:=c1 i x j;simp_all
    obtain⟨es,u,t1,Y,A⟩:=key;refine⟨[.list none (P.cellsOf e) es],?_,?_,by simp_all,by simp [one],?_⟩
    ·simp only [V.reps,V.rep,and_true];exact⟨(fun y L=>by cases L),some a,cap,by rw [u],by omega,Y⟩
    ·simp only [TV,hu];exact .inr ⟨es,rfl,by omega,t1⟩
    ·simp only [V.bulks,V.bulk,wK];omega
  ·rename_i n e hu;simp only [k7,decide_eq_true_eq] at p;obtain⟨hc,J⟩:=p;obtain⟨G,m,z,rfl,K,W,hd⟩:=DataW.trod_array hu h;obtain rfl:d=m:=qRs z;obtain⟨Q,u,t1,M,o1,A⟩:=qak (fun t cs x=>ZI F D d t cs x) J cs _ 0 G W (by simp_all) (by simp_all);have ah:=kR (fun x j=>(t1 x j).2);refine⟨Q.flatten,by simp_all,?_,by simp_all,by simp_all,by simp only [wK];omega⟩;simp only [TV,hu];exact⟨Q,u,fun x j=>(t1 x j).1,rfl⟩
  ·rename_i X hu;simp only [decide_eq_true_eq] at p;obtain⟨G,n,z,rfl,K,W,hd⟩:=DataW.trod_struct hu h;obtain rfl:d=n:=qRs z;obtain⟨vs,M,t1,u,o1,A⟩:=Y4 (fun t cs x=>ZI F D d t cs x) cs X.toList 0 _ G p (by omega) K (fun i f hf=>hd i f (by simp_all));refine⟨vs,by simp_all,?_,by omega,by simp_all,by simp only [wK];omega⟩;simp only [TV,hu];omega
  simp_all
def qdq (P:Program):List TypeId->List V->Prop
 | [],[]=>True
 | t::ts,a::az=>(∃ d,TA P d t a)/\qdq P ts az
 | _,_=>False
theorem qdq.cons {t:TypeId} {e:List TypeId}:∀ {l:List V},qdq P (t::e) l->∃ a r d,l=a::r/\TA P d t a/\qdq P e r
 | [],h=>h.elim
 | a::r,⟨⟨d,h⟩,h'⟩=>⟨a,r,d,rfl,h,h'⟩
theorem qdq.nil:∀ {l:List V},qdq P [] l->l=[]
 | [],_=>rfl
 | _::_,h=>h.elim
theorem qmk {d n:Nat} {t:TypeId} {v:Value} {r:Reach} {A:Nat} (o:Value.okWide P w r A t v) (h:Put P w I d t v.cells.toList n):∃ a,V.rep w I a v/\TA P d t a/\V.bulkA a<=n:=by
 obtain⟨x,u,t1,J,K,y⟩:=h;have z:(∃ j,v=.agg j)->xO P t=some true->∃ a,V.rep w I a v/\TA P d t a/\V.bulkA a<=n:=fun⟨j,e⟩ F=>by
  subst e;refine⟨.agg x,?_,by unfold TA;simp_all,y⟩;simp only [V.rep];exact⟨j,rfl,by assumption⟩
 have p:(∃ b,x=[b])->(∀ j,v ≠ .agg j)->xO P t=some false->(∀ b,x=[b]->∀ l,b ≠ .agg l)->∃ a,V.rep w I a v/\TA P d t a/\V.bulkA a<=n:=fun⟨a,e⟩ q F H=>by
  subst e;have D:v.cells.toList=[v]:=by
   cases v <;> simp [Value.cells];rename_i j;exact absurd rfl (q j)
  rw [D] at u;simp only [V.reps,and_true] at u;refine⟨a,u,by unfold TA;simp_all,?_⟩;have:V.bulkA a=V.bulk a:=by
   cases a <;> first | rfl | simp_all
  simp only [V.bulks] at y;omega
 cases d with
 | zero=>exact t1.elim
 | succ d =>
  have t0:=t1;simp only [TV] at t0;split at t0
  ·rename_i hu;obtain⟨b,rfl⟩:=t0;refine p ⟨_,rfl⟩ (fun j e=>?_) (by simp [xO,hu]) (fun b e l=>by cases e;simp);subst e;simp [Value.okWide,hu,Cell.okWide,Cell.ok] at o
  ·rename_i k hu;obtain⟨n,rfl,_⟩:=t0;refine p ⟨_,rfl⟩ (fun j e=>?_) (by simp [xO,hu]) (fun b e l=>by cases e;simp);subst e;simp [Value.okWide,hu,Cell.okWide,Cell.ok] at o
  ·rename_i hu;obtain⟨n,rfl,_⟩:=t0;refine p ⟨_,rfl⟩ (fun j e=>?_) (by simp [xO,hu]) (fun b e l=>by cases e;simp);subst e;simp [Value.okWide,hu,Cell.okWide,Cell.ok] at o
  ·rename_i e hu;have q:∀ j,v ≠ .agg j:=fun j e=>by subst e;simp [Value.okWide,hu,Cell.okWide,Cell.ok] at o
   rcases t0 with rfl | ⟨es,rfl,_⟩
   ·exact p ⟨_,rfl⟩ q (by simp [xO,hu]) (fun b e l=>by cases e;simp)
   ·exact p ⟨_,rfl⟩ q (by simp [xO,hu]) (fun b e l=>by cases e;simp)
  ·rename_i n e hu;refine z ?_ (by simp [xO,hu]);simp only [Value.okWide,hu] at o;obtain⟨j,C,_⟩:=o;simp_all
  ·rename_i G hu;refine z ?_ (by simp [xO,hu]);simp only [Value.okWide,hu] at o;obtain⟨j,C,_⟩:=o;simp_all
  simp_all
theorem qbg {T:List TypeId} (u:qf6 P T=true) (q:∀ b o x,w.cell? ⟨b,o,none⟩=some x->I b o) {r:Reach} {y base:Nat} {spare:Nat->Bool} {held:Bool}:∀ {d:List TypeId} {vs:List Value} {ds:List (DataW H)} {ps:List MemPlace},
  (∀ t ∈ d,T.contains t=true)->(∀ (j:Nat) t v,d[j]? = some t->vs[j]? = some v->Value.okWide P w r y t v)->DataW.TrodAll enc P w base spare held d vs ds ps ->
  ∃ e,V.reps w I e vs/\qdq P d e/\V.bulkAs e<=bulkDs ds
 | [],vs,ds,ps,_,_,h=>by
  obtain⟨rfl,rfl,rfl⟩:=trodAll_nil h;exact⟨[],by simp [V.reps],trivial,by simp [V.bulkAs]⟩
 | t::d,vs,ds,ps,hg,hok,h=>by
  obtain⟨v,Q,p,K,a,b,rfl,rfl,rfl,⟨z,A⟩,C⟩:=trodAll_cons h;obtain⟨x,N,t1,n⟩:=qmk (hok 0 t v rfl rfl) (ZI u q z t v.cells.toList (p,a) (hg t x6) A);obtain⟨G,O,t2,J⟩:=qbg u q (fun k D=>hg k (z8 _ D)) (fun j k F L M=>hok (j+1) k F (by simp_all) (by simp_all)) C;have n:V.bulkA x<=wK p:=n;exact⟨x::G,by exact qD,⟨⟨_,t1⟩,t2⟩,by simp only [V.bulkAs,bulkDs];omega⟩
end
theorem qre {T:List TypeId} {P:Program} {H:Type} {enc:TypeId × Value->H} {f:FuncId} {fn:Func} {s:ChangeSpec} {tb:TypeId} {fresh handsOn:Bool} (Q:s.vars=[]) (ab:laidOutB P=true)
  (Z:qf6 P T=true) (M:∀ t ∈ fn.params.toList,T.contains t=true/\P.readableRec t=true/\t < P.types.size) (ac:fn.resultTypes=#[tb]) (ad:P.underlying tb=some .bool)
  {W:World} {base:Nat} {args:Array Value} {ds gs:List (DataW H)} {before:List MemPlace}
  (af:∀ (j:Nat) t v,fn.params[j]? = some t->args[j]? = some v->Value.okWide P W .any base t v)
  (z:DataW.Whole enc P fn.params.toList s.vars false W args.toList ds gs before)
  (C:ds.length=fn.params.size->s.fn H (ds++[])={ results:=[.lit (.bool true)],args:=ds })
  (aa:UC W fun b _=>b < W.heap.size)
  (law:∀ d:List V,qdq P fn.params.toList d->V.bulkAs d<=bulkDs ds->zk P f d (.lit (.bool true))) :
  Calls P f args W fun e u=>∃ v,e=.returned v/\s.post enc P fn false fresh handsOn false W args v u:=by
 have N:=z.lt;have L:=z;obtain⟨p,q,y,K,rfl,_,_⟩:=z;rw [Q] at K;obtain⟨rfl,rfl⟩:=trodVars_none K;simp only [wl] at N L;have X:∀ b o x,W.cell? ⟨b,o,none⟩=some x->(fun b _=>b < W.heap.size:Cells) b o:=fun b o x hx=>by
  unfold World.cell? at hx;show b < W.heap.size;by_cases h:b < W.heap.size
  ·exact h
  simp_all
 obtain⟨d,r1,t1,R⟩:=qbg Z (I:=fun b _=>b < W.heap.size) X (fun t D=>(M t D).1) (fun j t v hj F=>af j t v (by simp_all) (by simp_all)) y;have A:ds.length=fn.params.size:=by
  have:∀ {n:List TypeId} {J:List Value} {ds:List (DataW H)} {G:List MemPlace},DataW.TrodAll enc P W 0 (fun _=>true) true n J ds G->ds.length=n.length:=by
   intro n
   induction n with
   | nil=>intro J ds G h;obtain⟨rfl,rfl,rfl⟩:=trodAll_nil h;rfl
   | cons t n ih=>intro J ds G h;obtain⟨v,ak,dd,ah,a,b,rfl,rfl,rfl,_,S⟩:=trodAll_cons h;simp [ih S]
  simpa using this y
 have U:wX W (fun b _=>b < W.heap.size) [] []:=⟨by simp,by simp,by decide,fun b o h=>h,aa⟩;have ha:args.toList.toArray=args:=by simp
 have key:=law d t1 R W (fun b _=>b < W.heap.size) args.toList r1 U;rw [ha] at key;refine key.mono fun e u ⟨x,v,ag,aj,I',he,F,k,_,_,Y⟩=>?_;obtain⟨rfl,rfl,rfl⟩:=Y;simp only [V.rep] at F;subst F;refine⟨_,he,?_⟩;have w:Below W.heap.size W u:=⟨k.os,k.tape,k.output,k.size,fun b w=>k.block b ⟨w,by simp⟩⟩;have ae:∀ (b:Nat) (sp:Nat->Bool) (hd:Bool),DataW.TrodAll enc P u b sp hd fn.resultTypes.toList ((Value.bool true).resultList fn.resultTypes.size) [.lit (.bool true)] []:=fun b sp hd=>by
  rw [ac];exact trodAll_mk1 ⟨1,by simp [DataW.trod,ad,Value.cells]⟩
 have ai:=qbf ab w (sp:=fun b=>decide (b < W.heap.size)) (fun t D=>(M t D).2) N (fun p O=>by simp_all) y;refine⟨ds,[],p,[],p,[],L,?_,?_,?_,?_,fun h=>by cases h⟩
 ·rw [C A];exact ae _ _ _
 ·rw [C A];omega
 ·rw [C A,Q];rfl
 ·exact World.keptBut_mono (fun p O=>O.elim) (w.frame fun _=>False)
end Go.VL
