/- Merged out of my text VF. -/
import Derived.Test.YtopfanlkbepemaaGreatKVE
import Derived.ChangeArms
import Derived.OpenShut
import Derived.ProofKit
namespace Go.VL
open Go.RowKit Go.ChangeShapes Go.WideShapes
mutual
def V.bulk:V→Nat
 | .lit (.string s)=>s.size+1
 | .list _ _ es=>V.bulkss es+1
 | _=>1
def V.bulks:List V→Nat
 | []=>0
 | v::r=>V.bulk v+V.bulks r
def V.bulkss:List (List V)→Nat
 | []=>0
 | e::r=>V.bulks e+V.bulkss r
end
mutual
def bulkD {H:Type}:DataW H→Nat
 | .lit (.string bytes)=>bytes.length+1
 | .lit _=>1
 | .nil=>1
 | .ptr d=>bulkD d+1
 | .slice elems spare=>bulkDs elems+bulkDs spare+1
 | .agg parts=>bulkDs parts+1
 | .iface _ d=>bulkD d+1
 | .map entries=>bulkDe entries+1
 | .held _=>1
def bulkDs {H:Type}:List (DataW H)→Nat
 | []=>0
 | d::r=>bulkD d+bulkDs r
def bulkDe {H:Type}:List (Lit × DataW H)→Nat
 | []=>0
 | x::r=>bulkDx x+bulkDe r
def bulkDx {H:Type}:Lit × DataW H→Nat
 | (.string bytes,d)=>bytes.length+bulkD d+1
 | (_,d)=>bulkD d+1
end
theorem bulks_append:∀ (a b:List V),V.bulks (a++b)=V.bulks a+V.bulks b
 | [],b=>by simp [V.bulks]
 | v::a,b=>by simp [V.bulks,bulks_append a b,Nat.add_assoc]
def TVF (f:TypeId→List V→Prop):List Field→List V→Prop
 | [],vs=>vs=[]
 | fd::r,vs=>∃ a b,vs=a++b∧f fd.type a∧TVF f r b
def TV (P:Program):Nat→TypeId→List V→Prop
 | 0,_,_=>False
 | d+1,t,vs=>match P.underlying t with
  | some .bool=>∃ b,vs=[.lit (.bool b)]
  | some (.int k)=>∃ n,vs=[.lit (.int k n)]∧(Lit.int k n).wf=true
  | some .string=>∃ s:ByteArray,vs=[.lit (.string s)]∧s.size≤maxLen
  | some (.slice e)=>vs=[.lit (.slice none 0 0)]∨∃ es,vs=[.list none (P.cellsOf e) es]∧es.length≤maxLen∧∀ x ∈ es,TV P d e x
  | some (.array n e)=>∃ ess:List (List V),ess.length=n∧(∀ x ∈ ess,TV P d e x)∧vs=ess.flatten
  | some (.struct fs)=>TVF (TV P d) fs.toList vs
  | _=>False
def goodF (P:Program) (f:TypeId→Bool):Nat→List Field→Option Nat
 | o,[]=>some o
 | o,fd::r=>if fd.offset=o∧f fd.type=true then goodF P f (o+P.cellsOf fd.type) r else none
section
variable {P:Program} {w:World} {I:Cells} {H:Type} {enc:TypeId × Value→H} {base:Nat} {spare:Nat→Bool} {held:Bool}
theorem reps_append' {a b:List V} {xs ys:List Value} (h:V.reps w I a xs) (h':V.reps w I b ys):V.reps w I (a++b) (xs++ys):=reps_append h h'
def Put (P:Program) (w:World) (I:Cells) (d:Nat) (t:TypeId) (cs:List Value) (n:Nat):Prop :=
 ∃ vs,V.reps w I vs cs∧TV P d t vs∧vs.length=P.cellsOf t∧(∀ c ∈ cs,one c)∧V.bulks vs≤n
theorem fields_put {d n:Nat} {g:TypeId→Bool} (ih:∀ t cs (x:DataW H × List MemPlace),g t=true→DataW.trod enc P w base spare held n t cs=some x→Put P w I d t cs (bulkD x.1)) (cs:List Value) :
  ∀ (fs:List Field) (o e:Nat) (xs:List (DataW H × List MemPlace)),goodF P g o fs=some e→xs.length=fs.length→cs.length=e →
   (∀ (i:Nat) (f:Field),fs[i]? = some f→DataW.trod enc P w base spare held n f.type ((cs.drop f.offset).take (P.cellsOf f.type))=xs[i]?) →
   ∃ vs,V.reps w I vs (cs.drop o)∧TVF (TV P d) fs vs∧o+vs.length=e∧(∀ c ∈ cs.drop o,one c)∧V.bulks vs≤bulkDs (xs.map (·.1))
 | [],o,e,xs,hg,_,hl,_=>by
  simp only [goodF,Option.some.injEq] at hg
  subst hg
  refine⟨[],?_,rfl,by simp,?_,by simp [V.bulks]⟩
  ·rw [List.drop_eq_nil_of_le (by omega)];simp [V.reps]
  ·rw [List.drop_eq_nil_of_le (by omega)];simp
 | fd::r,o,e,[],hg,hx,_,_=>by simp at hx
 | fd::r,o,e,x::xs,hg,hx,hl,hd=>by
  simp only [goodF] at hg
  split at hg
  ·rename_i hc
   obtain⟨ho,ht⟩:=hc
   have h0:=hd 0 fd rfl
   simp only [List.getElem?_cons_zero,ho] at h0
   obtain⟨v0,r0,t0,l0,o0,b0⟩:=ih _ _ _ ht h0
   obtain⟨vs,r1,t1,l1,o1,b1⟩:=fields_put ih cs r (o+P.cellsOf fd.type) e xs hg (by simpa using hx) hl fun i f hf=>by simpa using hd (i+1) f (by simpa using hf)
   have hs:cs.drop o=(cs.drop o).take (P.cellsOf fd.type)++cs.drop (o+P.cellsOf fd.type):=by rw [← List.drop_drop,List.take_append_drop]
   refine⟨v0++vs,?_,⟨v0,vs,rfl,t0,t1⟩,by simp only [List.length_append];omega,?_,?_⟩
   ·rw [hs];exact reps_append' r0 r1
   ·rw [hs];intro c hc
    rcases List.mem_append.1 hc with h | h
    ·exact o0 c h
    ·exact o1 c h
   ·simp only [bulks_append,List.map_cons,bulkDs];omega
  ·cases hg
theorem items_put {d n:Nat} {g:TypeId→Bool} (ih:∀ t cs (x:DataW H × List MemPlace),g t=true→DataW.trod enc P w base spare held n t cs=some x→Put P w I d t cs (bulkD x.1)) {e:TypeId} (he:g e=true) (cs:List Value) :
  ∀ (m j:Nat) (xs:List (DataW H × List MemPlace)),xs.length=m→cs.length=(j+m) * P.cellsOf e→(∀ i,i < m→DataW.trod enc P w base spare held n e ((cs.drop ((j+i) * P.cellsOf e)).take (P.cellsOf e))=xs[i]?) →
   ∃ ess:List (List V),ess.length=m∧(∀ x ∈ ess,TV P d e x∧x.length=P.cellsOf e)∧V.reps w I ess.flatten (cs.drop (j * P.cellsOf e))∧(∀ c ∈ cs.drop (j * P.cellsOf e),one c)∧V.bulks ess.flatten≤bulkDs (xs.map (·.1))
 | 0,j,xs,_,hl,_=>by
  rw [Nat.add_zero] at hl
  refine⟨[],rfl,by simp,?_,?_,by simp [V.bulks]⟩
  ·rw [List.drop_eq_nil_of_le (by omega)];simp [V.reps]
  ·rw [List.drop_eq_nil_of_le (by omega)];simp
 | m+1,j,[],hx,_,_=>by simp at hx
 | m+1,j,x::xs,hx,hl,hd=>by
  have h0:=hd 0 (by omega)
  simp only [Nat.add_zero,List.getElem?_cons_zero] at h0
  obtain⟨v0,r0,t0,l0,o0,b0⟩:=ih _ _ _ he h0
  obtain⟨ess,l1,t1,r1,o1,b1⟩:=items_put ih he cs m (j+1) xs (by simpa using hx) (by rw [hl];congr 1;omega) fun i hi=>by
   have:=hd (i+1) (by omega)
   rw [show j+(i+1)=j+1+i by omega] at this
   simpa using this
  have hs:cs.drop (j * P.cellsOf e)=(cs.drop (j * P.cellsOf e)).take (P.cellsOf e)++cs.drop ((j+1) * P.cellsOf e):=by
   rw [show (j+1) * P.cellsOf e=j * P.cellsOf e+P.cellsOf e by rw [Nat.add_mul];omega,← List.drop_drop,List.take_append_drop]
  refine⟨v0::ess,by simp [l1],?_,?_,?_,?_⟩
  ·intro y hy
   rcases List.mem_cons.1 hy with rfl | hy
   ·exact⟨t0,l0⟩
   ·exact t1 y hy
  ·rw [List.flatten_cons,hs];exact reps_append' r0 r1
  ·rw [hs];intro c hc
   rcases List.mem_append.1 hc with h | h
   ·exact o0 c h
   ·exact o1 c h
  ·simp only [List.flatten_cons,bulks_append,List.map_cons,bulkDs];omega
theorem slice_put {d n c b o:Nat} {g:TypeId→Bool} (hI:∀ b o x,w.cell? ⟨b,o,none⟩=some x→I b o) (ih:∀ t cs (x:DataW H × List MemPlace),g t=true→DataW.trod enc P w base spare held n t cs=some x→Put P w I d t cs (bulkD x.1)) {e:TypeId} (he:g e=true) (hc:P.cellsOf e=c) :
  ∀ (m j:Nat) (elems:List (DataW H × List MemPlace)),elems.length=m →
   (∀ i,i < m→(w.cells? base ((⟨b,o,none⟩:Addr).add ((j+i) * c)) c).bind (DataW.trod enc P w base spare held n e)=elems[i]?) →
   ∃ (es:List (List V)) (xs:List Value),es.length=m∧(∀ x ∈ es,TV P d e x∧x.length=c)∧V.reps w I es.flatten xs∧(∀ i x,xs[i]? = some x→w.cell? ⟨b,o+j * c+i,none⟩=some x∧I b (o+j * c+i)∧one x)∧V.bulkss es≤bulkDs (elems.map (·.1))
 | 0,j,elems,_,_=>⟨[],[],rfl,by simp,by simp [V.reps],by simp,by simp [V.bulkss]⟩
 | m+1,j,[],hx,_=>by simp at hx
 | m+1,j,x::elems,hx,hd=>by
  have h0:=hd 0 (by omega)
  simp only [Nat.add_zero,List.getElem?_cons_zero,Option.bind_eq_some_iff] at h0
  obtain⟨cs,hcs,h0⟩:=h0
  obtain⟨v0,r0,t0,l0,o0,b0⟩:=ih _ _ _ he h0
  obtain⟨_,hl,hcell⟩:=World.cells?_some hcs
  obtain⟨es,xs,l1,t1,r1,c1,b1⟩:=slice_put hI ih he hc m (j+1) elems (by simpa using hx) fun i hi=>by
   have:=hd (i+1) (by omega)
   rw [show j+(i+1)=j+1+i by omega] at this
   simpa using this
  refine⟨v0::es,cs++xs,by simp [l1],?_,?_,?_,?_⟩
  ·intro y hy
   rcases List.mem_cons.1 hy with rfl | hy
   ·exact⟨t0,l0.trans hc⟩
   ·exact t1 y hy
  ·rw [List.flatten_cons];exact reps_append' r0 r1
  ·intro i y hy
   rw [List.getElem?_append] at hy
   split at hy
   ·rename_i hi
    have hq:=hcell i (by omega)
    rw [add_plain,add_plain,hy] at hq
    exact⟨hq,hI _ _ _ hq,o0 y (List.mem_of_getElem? hy)⟩
   ·rename_i hi
    have:=c1 (i - cs.length) y hy
    rwa [show o+(j+1) * c+(i - cs.length)=o+j * c+i by rw [Nat.add_mul];omega] at this
  ·simp only [V.bulkss,List.map_cons,bulkDs];omega
end
end Go.VL
