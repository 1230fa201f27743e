/- Merged out of my text V5. -/
import Derived.Test.YtohdpcjaoiebkaaGreatDoorKV4
set_option linter.unusedSimpArgs false
set_option linter.unusedVariables false
namespace Go.VL
open Go.RowKit
def QO:Value→Bool
 | .agg _=>false
 | .tuple _=>false
 | _=>true
theorem qpz {x:Value} (h:QO x=true):one x:=by cases x <;> simp_all [QO,one]
def zR:V→Option (List V)
 | .any=>none
 | .tup _=>none
 | .agg vs=>some vs
 | .lit x=>if QO x then some [.lit x] else none
 | .list a k es=>some [.list a k es]
 | .ref cs=>some [.ref cs]
theorem qmo {x:Value} (h:QO x=true):x.cells=#[x]:=by cases x <;> simp_all [QO,Value.cells]
theorem yo {w:World} {I:Cells} {v:V} {cs:List V} {x:Value} (h:zR v=some cs) (hx:V.rep w I v x):V.reps w I cs x.cells.toList:=by
 cases v with
 | any=>simp [zR] at h
 | tup vs=>simp [zR] at h
 | agg vs =>
  simp only [zR,Option.some.injEq] at h
  subst h
  simp only [V.rep] at hx
  obtain⟨xs,rfl,hx⟩:=hx
  exact hx
 | lit y =>
  simp only [zR] at h
  split at h
  ·rename_i ho
   obtain rfl:=Option.some.inj h
   have hx':=hx
   simp only [V.rep] at hx'
   subst hx'
   rw [qmo ho]
   simp only [V.reps,V.rep,and_self]
  ·cases h
 | list a k es =>
  simp only [zR,Option.some.injEq] at h
  subst h
  have:x.cells=#[x]:=by
   have hx':=hx
   simp only [V.rep] at hx'
   obtain⟨_,a,c,rfl,_⟩:=hx'
   rfl
  rw [this]
  simp only [V.reps,and_true]
  exact hx
 | ref cs' =>
  simp only [zR,Option.some.injEq] at h
  subst h
  have:x.cells=#[x]:=by
   have hx':=hx
   simp only [V.rep] at hx'
   obtain⟨b,o,rfl,_⟩:=hx'
   rfl
  rw [this]
  simp only [V.reps,and_true]
  exact hx
def vD (P:Program):List Field→Option (List (Nat × Nat))
 | []=>some []
 | f::r=>match qV P f.type,vD P r with
  | some n,some l=>some ((f.offset,n)::l)
  | _,_=>none
theorem XW {P:Program} {w:World}:∀ {fs:List Field} {l:List (Nat × Nat)},vD P fs=some l →
  (fs.mapM fun f=>do pure (f.offset,← sizeOf f.type):Sem (List (Nat × Nat))).run P w=.ok l w
 | [],l,h=>by simp [vD] at h;subst h;simp
 | f::r,l,h=>by
  unfold vD at h
  split at h
  ·rename_i n l' h1 h2
   obtain rfl:=Option.some.inj h
   have ih:=XW (w:=w) h2
   simp only [List.mapM_cons,Sem.run_bind,Sem.run_pure,zx h1,Result.andThen_ok,ih]
  ·cases h
def qp (P:Program) (t:TypeId) (i:Nat):Option (Nat × Nat) :=
 match P.underlying t with
 | some (.struct fs)=>(vD P fs.toList).bind fun l=>l[i]?
 | some (.array _ e)=>(qV P e).map fun n=>(i * n,n)
 | _=>none
def QH (P:Program) (t:TypeId) (cells:List V):List (Nat × V)→Option (List V)
 | []=>some cells
 | (i,v)::rest=>match qp P t i,zR v with
  | some (off,n),some cs=>if cs.length=n∧off+n≤cells.length then QH P t (cells.take off++cs++cells.drop (off+n)) rest else none
  | _,_=>none
theorem Xi (off:Nat):∀ (vs:List Value) (k:Nat) (cs:Array Value),off+k+vs.length≤cs.size →
  ((vs.zipIdx k).foldl (fun cs (c,j)=>cs.setIfInBounds (off+j) c) cs).toList=cs.toList.take (off+k)++vs++cs.toList.drop (off+k+vs.length)
 | [],k,cs,_=>by simp
 | v::vs,k,cs,h=>by
  rw [List.zipIdx_cons,List.foldl_cons]
  simp only [List.length_cons] at h
  rw [Xi off vs (k+1) (cs.setIfInBounds (off+k) v) (by simpa using by omega)]
  simp only [Array.toList_setIfInBounds,List.length_cons]
  have hlt:off+k < cs.toList.length:=by simpa using by omega
  rw [show off+(k+1)=off+k+1 from by omega,List.take_add_one,List.getElem?_set_self hlt,List.take_set_of_le (Nat.le_refl _),List.drop_set_of_lt (by omega)]
  simp [show off+k+1+vs.length=off+k+(vs.length+1) from by omega]
theorem qw {w:World} {I:Cells}:∀ {vs us:List V} {xs ys:List Value},V.reps w I vs xs→V.reps w I us ys→V.reps w I (vs++us) (xs++ys)
 | [],us,[],ys,_,h=>by simpa using h
 | v::vs,us,x::xs,ys,h,h'=>by
  simp only [V.reps] at h
  simp only [List.cons_append,V.reps]
  exact⟨h.1,qw h.2 h'⟩
 | [],_,_::_,_,h,_=>by simp only [V.reps] at h
 | _::_,_,[],_,h,_=>by simp only [V.reps] at h
theorem Qb {P:Program} {t:TypeId} {w:World} {I:Cells} {place:Nat→Option (Nat × Nat)} (hp:∀ i p,qp P t i=some p→place i=some p) :
  ∀ {parts:List (Nat × V)} {vals:List (Nat × Value)} {cells out:List V} {arr:Array Value},QH P t cells parts=some out→V.reps w I cells arr.toList →
   parts.map (·.1)=vals.map (·.1)→V.reps w I (parts.map (·.2)) (vals.map (·.2))→∃ arr',Instr.fill place arr vals=some arr'∧V.reps w I out arr'.toList
 | [],[],cells,out,arr,h,hr,_,_=>by
  simp only [QH,Option.some.injEq] at h
  subst h
  exact⟨arr,rfl,hr⟩
 | (i,v)::ps,(i',x)::vs,cells,out,arr,h,hr,hi,hx=>by
  simp only [List.map_cons,List.cons.injEq] at hi
  obtain⟨rfl,hi⟩:=hi
  simp only [List.map_cons,V.reps] at hx
  unfold QH at h
  split at h
  ·rename_i off n cs h1 h2
   split at h
   ·rename_i hb
    have hc:=yo h2 hx.1
    have hl:x.cells.size=n:=by have:=qC hc;simp at this;omega
    have hla:arr.size=cells.length:=by have:=qC hr;simpa using this
    have hset:=Xi off x.cells.toList 0 arr (by simp;omega)
    have hset2:((x.cells.zipIdx).foldl (fun cs (c,j)=>cs.setIfInBounds (off+j) c) arr).toList=arr.toList.take off++x.cells.toList++arr.toList.drop (off+n):=by
     rw [← Array.foldl_toList,Array.toList_zipIdx,hset]
     simp [hl]
    have hr':V.reps w I (cells.take off++cs++cells.drop (off+n)) ((x.cells.zipIdx).foldl (fun cs (c,j)=>cs.setIfInBounds (off+j) c) arr).toList:=by
     rw [hset2]
     exact qw (qw (xb off hr) hc) (xc (off+n) hr)
    obtain⟨arr',e1,e2⟩:=Qb hp h hr' hi hx.2
    refine⟨arr',?_,e2⟩
    unfold Instr.fill
    simp only [hp i _ h1]
    rw [if_neg (by simp;omega)]
    exact e1
   ·cases h
  ·cases h
 | [],_::_,_,_,_,_,_,hi,_=>by simp at hi
 | _::_,[],_,_,_,_,_,hi,_=>by simp at hi
def buildK (P:Program) (t:TypeId) (parts:List (Nat × V)) (k:V→Prop):Prop :=
 match z7 P t with
 | some z=>∃ cs,QH P t (z.map .lit) parts=some cs∧k (.agg cs)
 | none=>False
theorem zL {w:World} {I:Cells}:∀ (z:List Value),V.reps w I (z.map .lit) z
 | []=>by simp [V.reps]
 | x::z=>by simp only [List.map_cons,V.reps,V.rep];exact⟨trivial,zL z⟩
theorem qj7 {P:Program} {t:TypeId} {w:World} {I:Cells} {z:List Value} {parts:List (Nat × V)} {vals:Array (Nat × Value)} {cs:List V}
  (hz:z7 P t=some z) (h:QH P t (z.map .lit) parts=some cs) (hk:(∃ i,(qp P t i).isSome)∨P.underlying t=some (.struct #[])) (hi:parts.map (·.1)=vals.toList.map (·.1)) (hx:V.reps w I (parts.map (·.2)) (vals.toList.map (·.2))) :
  ∃ x,(Instr.build t vals).run P w=.ok x w∧V.rep w I (.agg cs) x:=by
 obtain⟨v,hv,hvz⟩:=Zw (w:=w) hz
 have hr:V.reps w I (z.map .lit) v.cells.toList:=by rw [hvz];exact zL z
 rcases hk with hk | hd
 rotate_left
 ·have hm:((#[]:Array Field).mapM fun f=>do pure (f.offset,← sizeOf f.type):Sem (Array (Nat × Nat))).run P w=.ok #[] w:=by simp [Sem.run_pure]
  obtain⟨arr',e1,e2⟩:=Qb (place:=((#[]:Array (Nat × Nat))[·]?)) (fun i p hp=>by simp [qp,hd,vD] at hp) h hr hi hx
  refine⟨.agg arr',?_,by simp only [V.rep];exact⟨_,rfl,e2⟩⟩
  unfold Instr.build
  simp only [Sem.run_bind,hv,run_underlying hd,Result.andThen_ok,hm,e1,Sem.run_pure]
 obtain⟨i0,hk⟩:=hk
 unfold qp at hk
 split at hk
 ·rename_i fs hd
  cases hl:vD P fs.toList with
  | none=>simp [hl] at hk
  | some l =>
   have hm:(fs.mapM fun f=>do pure (f.offset,← sizeOf f.type):Sem (Array (Nat × Nat))).run P w=.ok l.toArray w:=by
    have:=XW (w:=w) hl
    rw [Array.mapM_eq_mapM_toList]
    simp only [Sem.run_map,this,Result.andThen_ok]
   obtain⟨arr',e1,e2⟩:=Qb (place:=(l.toArray[·]?)) (fun i p hp=>by simpa [qp,hd,hl] using hp) h hr hi hx
   refine⟨.agg arr',?_,by simp only [V.rep];exact⟨_,rfl,e2⟩⟩
   unfold Instr.build
   simp only [Sem.run_bind,hv,run_underlying hd,Result.andThen_ok,hm,e1,Sem.run_pure]
 ·rename_i n e hd
  cases hs:qV P e with
  | none=>simp [hs] at hk
  | some m =>
   obtain⟨arr',e1,e2⟩:=Qb (place:=fun i=>some (i * m,m)) (fun i p hp=>by simpa [qp,hd,hs] using hp) h hr hi hx
   refine⟨.agg arr',?_,by simp only [V.rep];exact⟨_,rfl,e2⟩⟩
   unfold Instr.build
   simp only [Sem.run_bind,hv,run_underlying hd,Result.andThen_ok,zx hs,e1,Sem.run_pure]
 ·simp at hk
end Go.VL
