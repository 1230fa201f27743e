/- Merged out of my text V5. -/
import Derived.Test.YtopfanlkbepemaaGreatKV4
namespace Go.VL
open Go.RowKit
def oneB:Value→Bool
 | .agg _=>false
 | .tuple _=>false
 | _=>true
theorem oneB_one {x:Value} (h:oneB x=true):one x:=by cases x <;> simp_all [oneB,one]
def cellsV:V→Option (List V)
 | .any=>none
 | .tup _=>none
 | .agg vs=>some vs
 | .lit x=>if oneB x then some [.lit x] else none
 | .list a k es=>some [.list a k es]
 | .ref cs=>some [.ref cs]
theorem cells_one {x:Value} (h:oneB x=true):x.cells=#[x]:=by cases x <;> simp_all [oneB,Value.cells]
theorem cellsV_spec {w:World} {I:Cells} {v:V} {cs:List V} {x:Value} (h:cellsV v=some cs) (hx:V.rep w I v x):V.reps w I cs x.cells.toList:=by
 cases v with
 | any=>simp [cellsV] at h
 | tup vs=>simp [cellsV] at h
 | agg vs =>
  simp only [cellsV,Option.some.injEq] at h
  subst h
  simp only [V.rep] at hx
  obtain⟨xs,rfl,hx⟩:=hx
  exact hx
 | lit y =>
  simp only [cellsV] at h
  split at h
  ·rename_i ho
   obtain rfl:=Option.some.inj h
   have hx':=hx
   simp only [V.rep] at hx'
   subst hx'
   rw [cells_one ho]
   simp only [V.reps,V.rep,and_self]
  ·cases h
 | list a k es =>
  simp only [cellsV,Option.some.injEq] at h
  subst h
  have:x.cells=#[x]:=by
   have hx':=hx
   simp only [V.rep] at hx'
   obtain⟨_,a,c,rfl,_⟩:=hx'
   rfl
  rw [this]
  simp only [V.reps,and_true]
  exact hx
 | ref cs' =>
  simp only [cellsV,Option.some.injEq] at h
  subst h
  have:x.cells=#[x]:=by
   have hx':=hx
   simp only [V.rep] at hx'
   obtain⟨b,o,rfl,_⟩:=hx'
   rfl
  rw [this]
  simp only [V.reps,and_true]
  exact hx
def fplaces (P:Program):List Field→Option (List (Nat × Nat))
 | []=>some []
 | f::r=>match tsz P f.type,fplaces P r with
  | some n,some l=>some ((f.offset,n)::l)
  | _,_=>none
theorem run_fplaces {P:Program} {w:World}:∀ {fs:List Field} {l:List (Nat × Nat)},fplaces P fs=some l →
  (fs.mapM fun f=>do pure (f.offset,← sizeOf f.type):Sem (List (Nat × Nat))).run P w=.ok l w
 | [],l,h=>by simp [fplaces] at h;subst h;simp
 | f::r,l,h=>by
  unfold fplaces at h
  split at h
  ·rename_i n l' h1 h2
   obtain rfl:=Option.some.inj h
   have ih:=run_fplaces (w:=w) h2
   simp only [List.mapM_cons,Sem.run_bind,Sem.run_pure,run_tsz h1,Result.andThen_ok,ih]
  ·cases h
def placeOf (P:Program) (t:TypeId) (i:Nat):Option (Nat × Nat) :=
 match P.underlying t with
 | some (.struct fs)=>(fplaces P fs.toList).bind fun l=>l[i]?
 | some (.array _ e)=>(tsz P e).map fun n=>(i * n,n)
 | _=>none
def fillV (P:Program) (t:TypeId) (cells:List V):List (Nat × V)→Option (List V)
 | []=>some cells
 | (i,v)::rest=>match placeOf P t i,cellsV v with
  | some (off,n),some cs=>if cs.length=n∧off+n≤cells.length then fillV P t (cells.take off++cs++cells.drop (off+n)) rest else none
  | _,_=>none
theorem foldl_set (off:Nat):∀ (vs:List Value) (k:Nat) (cs:Array Value),off+k+vs.length≤cs.size →
  ((vs.zipIdx k).foldl (fun cs (c,j)=>cs.setIfInBounds (off+j) c) cs).toList=cs.toList.take (off+k)++vs++cs.toList.drop (off+k+vs.length)
 | [],k,cs,_=>by simp
 | v::vs,k,cs,h=>by
  rw [List.zipIdx_cons,List.foldl_cons]
  simp only [List.length_cons] at h
  rw [foldl_set off vs (k+1) (cs.setIfInBounds (off+k) v) (by simpa using by omega)]
  simp only [Array.toList_setIfInBounds,List.length_cons]
  have hlt:off+k < cs.toList.length:=by simpa using by omega
  rw [show off+(k+1)=off+k+1 from by omega,List.take_add_one,List.getElem?_set_self hlt,List.take_set_of_le (Nat.le_refl _),List.drop_set_of_lt (by omega)]
  simp [show off+k+1+vs.length=off+k+(vs.length+1) from by omega]
theorem reps_append {w:World} {I:Cells}:∀ {vs us:List V} {xs ys:List Value},V.reps w I vs xs→V.reps w I us ys→V.reps w I (vs++us) (xs++ys)
 | [],us,[],ys,_,h=>by simpa using h
 | v::vs,us,x::xs,ys,h,h'=>by
  simp only [V.reps] at h
  simp only [List.cons_append,V.reps]
  exact⟨h.1,reps_append h.2 h'⟩
 | [],_,_::_,_,h,_=>by simp only [V.reps] at h
 | _::_,_,[],_,h,_=>by simp only [V.reps] at h
theorem fill_spec {P:Program} {t:TypeId} {w:World} {I:Cells} {place:Nat→Option (Nat × Nat)} (hp:∀ i p,placeOf P t i=some p→place i=some p) :
  ∀ {parts:List (Nat × V)} {vals:List (Nat × Value)} {cells out:List V} {arr:Array Value},fillV P t cells parts=some out→V.reps w I cells arr.toList →
   parts.map (·.1)=vals.map (·.1)→V.reps w I (parts.map (·.2)) (vals.map (·.2))→∃ arr',Instr.fill place arr vals=some arr'∧V.reps w I out arr'.toList
 | [],[],cells,out,arr,h,hr,_,_=>by
  simp only [fillV,Option.some.injEq] at h
  subst h
  exact⟨arr,rfl,hr⟩
 | (i,v)::ps,(i',x)::vs,cells,out,arr,h,hr,hi,hx=>by
  simp only [List.map_cons,List.cons.injEq] at hi
  obtain⟨rfl,hi⟩:=hi
  simp only [List.map_cons,V.reps] at hx
  unfold fillV at h
  split at h
  ·rename_i off n cs h1 h2
   split at h
   ·rename_i hb
    have hc:=cellsV_spec h2 hx.1
    have hl:x.cells.size=n:=by have:=reps_length hc;simp at this;omega
    have hla:arr.size=cells.length:=by have:=reps_length hr;simpa using this
    have hset:=foldl_set off x.cells.toList 0 arr (by simp;omega)
    have hset2:((x.cells.zipIdx).foldl (fun cs (c,j)=>cs.setIfInBounds (off+j) c) arr).toList=arr.toList.take off++x.cells.toList++arr.toList.drop (off+n):=by
     rw [← Array.foldl_toList,Array.toList_zipIdx,hset]
     simp [hl]
    have hr':V.reps w I (cells.take off++cs++cells.drop (off+n)) ((x.cells.zipIdx).foldl (fun cs (c,j)=>cs.setIfInBounds (off+j) c) arr).toList:=by
     rw [hset2]
     exact reps_append (reps_append (reps_take off hr) hc) (reps_drop (off+n) hr)
    obtain⟨arr',e1,e2⟩:=fill_spec hp h hr' hi hx.2
    refine⟨arr',?_,e2⟩
    unfold Instr.fill
    simp only [hp i _ h1]
    rw [if_neg (by simp;omega)]
    exact e1
   ·cases h
  ·cases h
 | [],_::_,_,_,_,_,_,hi,_=>by simp at hi
 | _::_,[],_,_,_,_,_,hi,_=>by simp at hi
def buildK (P:Program) (t:TypeId) (parts:List (Nat × V)) (k:V→Prop):Prop :=
 match tzr P t with
 | some z=>∃ cs,fillV P t (z.map .lit) parts=some cs∧k (.agg cs)
 | none=>False
theorem reps_lits {w:World} {I:Cells}:∀ (z:List Value),V.reps w I (z.map .lit) z
 | []=>by simp [V.reps]
 | x::z=>by simp only [List.map_cons,V.reps,V.rep];exact⟨trivial,reps_lits z⟩
theorem run_build {P:Program} {t:TypeId} {w:World} {I:Cells} {z:List Value} {parts:List (Nat × V)} {vals:Array (Nat × Value)} {cs:List V}
  (hz:tzr P t=some z) (h:fillV P t (z.map .lit) parts=some cs) (hk:∃ i,(placeOf P t i).isSome) (hi:parts.map (·.1)=vals.toList.map (·.1)) (hx:V.reps w I (parts.map (·.2)) (vals.toList.map (·.2))) :
  ∃ x,(Instr.build t vals).run P w=.ok x w∧V.rep w I (.agg cs) x:=by
 obtain⟨v,hv,hvz⟩:=run_tzr (w:=w) hz
 have hr:V.reps w I (z.map .lit) v.cells.toList:=by rw [hvz];exact reps_lits z
 obtain⟨i0,hk⟩:=hk
 unfold placeOf at hk
 split at hk
 ·rename_i fs hd
  cases hl:fplaces P fs.toList with
  | none=>simp [hl] at hk
  | some l =>
   have hm:(fs.mapM fun f=>do pure (f.offset,← sizeOf f.type):Sem (Array (Nat × Nat))).run P w=.ok l.toArray w:=by
    have:=run_fplaces (w:=w) hl
    rw [Array.mapM_eq_mapM_toList]
    simp only [Sem.run_map,this,Result.andThen_ok]
   obtain⟨arr',e1,e2⟩:=fill_spec (place:=(l.toArray[·]?)) (fun i p hp=>by simpa [placeOf,hd,hl] using hp) h hr hi hx
   refine⟨.agg arr',?_,by simp only [V.rep];exact⟨_,rfl,e2⟩⟩
   unfold Instr.build
   simp only [Sem.run_bind,hv,run_underlying hd,Result.andThen_ok,hm,e1,Sem.run_pure]
 ·rename_i n e hd
  cases hs:tsz P e with
  | none=>simp [hs] at hk
  | some m =>
   obtain⟨arr',e1,e2⟩:=fill_spec (place:=fun i=>some (i * m,m)) (fun i p hp=>by simpa [placeOf,hd,hs] using hp) h hr hi hx
   refine⟨.agg arr',?_,by simp only [V.rep];exact⟨_,rfl,e2⟩⟩
   unfold Instr.build
   simp only [Sem.run_bind,hv,run_underlying hd,Result.andThen_ok,run_tsz hs,e1,Sem.run_pure]
 ·simp at hk
end Go.VL
