/- Merged out of my text VG. -/
import Derived.Test.YtopfanlkbepemaaGreatKVF
import Derived.WideKeyArgs
import Derived.Below
namespace Go.VL
open Go.RowKit Go.ChangeShapes Go.WideShapes
def TA (P:Program) (d:Nat) (t:TypeId) (a:V):Prop:=match tag P t with
 | some true=>∃ vs,a=.agg vs∧TV P d t vs
 | some false=>TV P d t [a]
 | none=>False
def TAs (P:Program) (d:Nat):List TypeId→List V→Prop
 | [],[]=>True
 | t::ts,a::as=>TA P d t a∧TAs P d ts as
 | _,_=>False
theorem TAs.cons {P:Program} {d:Nat} {t:TypeId} {ts:List TypeId}:∀ {l:List V},TAs P d (t::ts) l→∃ a r,l=a::r∧TA P d t a∧TAs P d ts r
 | [],h=>h.elim
 | a::r,h=>⟨a,r,rfl,h.1,h.2⟩
theorem TAs.nil {P:Program} {d:Nat}:∀ {l:List V},TAs P d [] l→l=[]
 | [],_=>rfl
 | _::_,h=>h.elim
def V.bulkA:V→Nat
 | .agg vs=>V.bulks vs
 | v=>V.bulk v
def V.bulkAs:List V→Nat
 | []=>0
 | v::r=>V.bulkA v+V.bulkAs r
section
variable {P:Program} {w:World} {I:Cells} {H:Type} {enc:TypeId × Value→H}
theorem args_stay (hl:laidOutB P=true) {W W':World} (hb:Below W.heap.size W W') {sp:Nat→Bool}:∀ {ts:List TypeId} {vs:List Value} {ds:List (DataW H)} {ps:List MemPlace},
  (∀ t ∈ ts,P.readableRec t=true∧t < P.types.size)→(∀ p ∈ ps,p.block < W.heap.size)→(∀ p ∈ ps,sp p.block=true)→DataW.TrodAll enc P W 0 (fun _=>true) true ts vs ds ps→DataW.TrodAll enc P W' 0 sp true ts vs ds ps
 | [],vs,ds,ps,_,_,_,h=>by
  obtain⟨rfl,rfl,rfl⟩:=trodAll_nil h
  exact h
 | t::ts,vs,ds,ps,hr,hlt,hsp,h=>by
  obtain⟨v,vs1,dd,ds1,a,b,rfl,rfl,rfl,h1,h2⟩:=trodAll_cons h
  refine⟨a,b,?_,?_,rfl⟩
  ·exact WideElems.Trod_stays hl (hr t List.mem_cons_self).1 (hr t List.mem_cons_self).2 h1 (fun p hp=>hb.same (hlt p (List.mem_append.2 (.inl hp)))) fun p hp=>hsp p (List.mem_append.2 (.inl hp))
  ·exact args_stay hl hb (fun t' ht'=>hr t' (List.mem_cons_of_mem _ ht')) (fun p hp=>hlt p (List.mem_append.2 (.inr hp))) (fun p hp=>hsp p (List.mem_append.2 (.inr hp))) h2
end
end Go.VL
