/- Merged out of my text VI. -/
import Derived.Test.YtopfanlkbepemaaGreatKVD
import Derived.ChangeKeysEq
import Derived.Laws.StructEq
namespace Go.VL
open Go.RowKit
def veq:Value→Value→Bool
 | .bool a,.bool b=>a == b
 | .int k a,.int k' b=>decide (k=k') && decide (a=b)
 | .string a,.string b=>decide (a=b)
 | _,_=>false
def veqL:List Value→List Value→Bool
 | [],[]=>true
 | x::xs,y::ys=>veq x y && veqL xs ys
 | _,_=>false
def eqShF (P:Program) (f:TypeId→Option (List Sh)):Nat→List Field→Option (List Sh)
 | _,[]=>some []
 | o, fd :: r => if fd.name = "_" ∨ fd.offset ≠ o then none else match f fd.type, tsz P fd.type with
  | some l,some c=>if l.length=c then (eqShF P f (o+c) r).map (l++·) else none
  | _,_=>none
def eqSh (P:Program):Nat→TypeId→Option (List Sh)
 | 0,_=>none
 | d+1,t=>match P.underlying t with
  | some .bool=>some [.b]
  | some (.int k)=>some [.i k]
  | some .string=>some [.s]
  | some (.array n e)=>match eqSh P d e,tsz P e with
   | some l,some c=>if l.length=c then some ((List.replicate n l).flatten) else none
   | _,_=>none
  | some (.struct fs)=>if P.stoodInHeld t=true then none else eqShF P (eqSh P d) 0 fs.toList
  | _=>none
def mkV (P:Program) (t:TypeId) (xs:List Value):Value:=if tag P t=some true then .agg xs.toArray else xs.headD undef
theorem fitL_length:∀ {l:List Sh} {xs:List Value},fitL l xs=true→xs.length=l.length
 | [],[],_=>rfl
 | _::_,_::_,h=>by simp only [fitL,Bool.and_eq_true] at h;simp [fitL_length h.2]
 | [],_::_,h=>by simp [fitL] at h
 | _::_,[],h=>by simp [fitL] at h
theorem fitL_append:∀ {l l':List Sh} {xs:List Value},fitL (l++l') xs=true→fitL l (xs.take l.length)=true∧fitL l' (xs.drop l.length)=true
 | [],l',xs,h=>by simpa [fitL] using h
 | a::l,l',x::xs,h=>by
  simp only [List.cons_append,fitL,Bool.and_eq_true] at h
  have:=fitL_append h.2
  simp [fitL,h.1,this]
 | a::l,l',[],h=>by simp [fitL] at h
section
variable {P:Program} {w:World}
theorem run_part_mk {e:TypeId} {c:Nat} {zs:Array Value} {off:Nat} {d:Nat} {l:List Sh} (hl:eqSh P d e=some l) (hc:tsz P e=some c) (hlc:l.length=c) (hf:fitL l ((zs.toList.drop off).take c)=true) :
  (part e zs off).run P w=.ok (mkV P e ((zs.toList.drop off).take c)) w:=by
 have htag:∃ b,tag P e=some b∧(b=false→c=1):=by
  cases d with
  | zero=>simp [eqSh] at hl
  | succ d =>
   unfold eqSh at hl
   unfold tag
   split at hl <;> rename_i hu <;> try simp only [hu]
   ·exact⟨false,rfl,fun _=>by cases hl;exact hlc.symm⟩
   ·exact⟨false,rfl,fun _=>by cases hl;exact hlc.symm⟩
   ·exact⟨false,rfl,fun _=>by cases hl;exact hlc.symm⟩
   ·exact⟨true,rfl,fun h=>by cases h⟩
   ·exact⟨true,rfl,fun h=>by cases h⟩
   ·cases hl
 obtain⟨b,hb,h1⟩:=htag
 have hlen:=fitL_length hf
 cases b with
 | true =>
  simp only [part,Sem.run_bind,run_tag hb,Result.andThen_ok,if_true,run_tsz hc,Sem.run_pure,mkV,hb]
  congr 2
  apply Array.ext'
  simp [List.extract,Nat.add_sub_cancel_left]
 | false =>
  obtain rfl:=h1 rfl
  simp only [hlc] at hlen
  have:∃ x,zs[off]? = some x∧(zs.toList.drop off).take 1=[x]:=by
   cases hd:zs.toList.drop off with
   | nil=>rw [hd] at hlen;simp at hlen
   | cons x r =>
    refine⟨x,?_,by simp⟩
    have:zs.toList[off]? = some x:=by
     have:=congrArg (fun l=>l[0]?) hd
     simpa [List.getElem?_drop] using this
    simpa using this
  obtain⟨x,hx,hx'⟩:=this
  simp only [part,Sem.run_bind,run_tag hb,Result.andThen_ok,Bool.false_eq_true,if_false,hx,Sem.run_pure,mkV,hb,hx']
  simp
omit P w in
theorem veqL_append:∀ {A A' B B':List Value},A.length=B.length→veqL (A++A') (B++B')=(veqL A B && veqL A' B')
 | [],_,[],_,_=>by simp [veqL]
 | a::A,A',b::B,B',h=>by
  simp only [List.length_cons,Nat.succ.injEq] at h
  simp only [List.cons_append,veqL,veqL_append h,Bool.and_assoc]
 | [],_,_::_,_,h=>by simp at h
 | _::_,_,[],_,h=>by simp at h
def EqLaw (P:Program) (d:Nat):Prop:=∀ t l,eqSh P d t=some l→∀ D,d≤D→∀ xs ys w,fitL l xs=true→fitL l ys=true→(Op.equalIn D t (mkV P t xs) (mkV P t ys)).run P w=.ok (veqL xs ys) w
theorem items_law {d:Nat} (ih:EqLaw P d) {e:TypeId} {l:List Sh} {c:Nat} (hl:eqSh P d e=some l) (hc:tsz P e=some c) (hlc:l.length=c) {D:Nat} (hD:d≤D) (X Y:Array Value):∀ (m j:Nat) (w:World),
  fitL ((List.replicate m l).flatten) (X.toList.drop (j * c))=true→fitL ((List.replicate m l).flatten) (Y.toList.drop (j * c))=true →
  (Op.eqItems D e c X Y (List.range' j m)).run P w=.ok (veqL (X.toList.drop (j * c)) (Y.toList.drop (j * c))) w
 | 0,j,w,hx,hy=>by
  have h1:=fitL_length hx
  have h2:=fitL_length hy
  simp at h1 h2
  have e1:X.toList.drop (j * c)=[]:=List.drop_eq_nil_of_le (by simp;omega)
  have e2:Y.toList.drop (j * c)=[]:=List.drop_eq_nil_of_le (by simp;omega)
  simp [Op.eqItems,e1,e2,veqL]
 | m+1,j,w,hx,hy=>by
  simp only [List.replicate_succ,List.flatten_cons] at hx hy
  have ax:=fitL_append hx
  have ay:=fitL_append hy
  rw [hlc] at ax ay
  simp only [List.drop_drop] at ax ay
  rw [show j * c+c=(j+1) * c by rw [Nat.add_mul];omega] at ax ay
  have r:=items_law ih hl hc hlc hD X Y m (j+1) w ax.2 ay.2
  simp only [List.range'_succ,Op.eqItems,Sem.run_bind,run_part_mk hl hc hlc ax.1,run_part_mk hl hc hlc ay.1,Result.andThen_ok,ih e l hl D hD _ _ w ax.1 ay.1]
  have ex:X.toList.drop (j * c)=(X.toList.drop (j * c)).take c++X.toList.drop ((j+1) * c):=by
   rw [show (j+1) * c=j * c+c by rw [Nat.add_mul];omega,← List.drop_drop,List.take_append_drop]
  have ey:Y.toList.drop (j * c)=(Y.toList.drop (j * c)).take c++Y.toList.drop ((j+1) * c):=by
   rw [show (j+1) * c=j * c+c by rw [Nat.add_mul];omega,← List.drop_drop,List.take_append_drop]
  have hdec:veqL (X.toList.drop (j * c)) (Y.toList.drop (j * c))=(veqL ((X.toList.drop (j * c)).take c) ((Y.toList.drop (j * c)).take c) && veqL (X.toList.drop ((j+1) * c)) (Y.toList.drop ((j+1) * c))):=by
   rw [← veqL_append (by rw [fitL_length ax.1,fitL_length ay.1]),← ex,← ey]
  rw [hdec]
  cases q:veqL ((X.toList.drop (j * c)).take c) ((Y.toList.drop (j * c)).take c)
  ·simp only [Bool.not_false,if_true,Bool.false_and,Sem.run_pure]
  ·simp only [Bool.not_true,Bool.false_eq_true,if_false,Bool.true_and];exact r
theorem fields_law {d:Nat} (ih:EqLaw P d) {D:Nat} (hD:d≤D) (X Y:Array Value):∀ (fs:List Field) (o:Nat) (l:List Sh) (w:World),eqShF P (eqSh P d) o fs=some l →
  fitL l (X.toList.drop o)=true→fitL l (Y.toList.drop o)=true→(Op.eqFields D X Y fs).run P w=.ok (veqL (X.toList.drop o) (Y.toList.drop o)) w
 | [],o,l,w,h,hx,hy=>by
  simp only [eqShF,Option.some.injEq] at h
  subst h
  have h1:=fitL_length hx
  have h2:=fitL_length hy
  simp at h1 h2
  have e1:X.toList.drop o=[]:=List.drop_eq_nil_of_le (by simp;omega)
  have e2:Y.toList.drop o=[]:=List.drop_eq_nil_of_le (by simp;omega)
  simp [Op.eqFields,e1,e2,veqL]
 | f::fs,o,l,w,h,hx,hy=>by
  simp only [eqShF] at h
  split at h
  ·cases h
  ·rename_i hno
   have hn : f.name ≠ "_" := fun e => hno (.inl e)
   have ho:f.offset=o:=Decidable.byContradiction fun e=>hno (.inr e)
   split at h
   ·rename_i l1 c h1 hc
    split at h
    ·rename_i hlc
     simp only [Option.map_eq_some_iff] at h
     obtain⟨l2,h2,rfl⟩:=h
     have ax:=fitL_append hx
     have ay:=fitL_append hy
     rw [hlc] at ax ay
     simp only [List.drop_drop] at ax ay
     have r:=fields_law ih hD X Y fs (o+c) l2 w h2 ax.2 ay.2
     simp only [Op.eqFields,if_pos hn,ho,Sem.run_bind,run_part_mk h1 hc hlc ax.1,run_part_mk h1 hc hlc ay.1,Result.andThen_ok,ih f.type l1 h1 D hD _ _ w ax.1 ay.1]
     have ex:X.toList.drop o=(X.toList.drop o).take c++X.toList.drop (o+c):=by rw [← List.drop_drop,List.take_append_drop]
     have ey:Y.toList.drop o=(Y.toList.drop o).take c++Y.toList.drop (o+c):=by rw [← List.drop_drop,List.take_append_drop]
     have hdec:veqL (X.toList.drop o) (Y.toList.drop o)=(veqL ((X.toList.drop o).take c) ((Y.toList.drop o).take c) && veqL (X.toList.drop (o+c)) (Y.toList.drop (o+c))):=by
      rw [← veqL_append (by rw [fitL_length ax.1,fitL_length ay.1]),← ex,← ey]
     rw [hdec]
     cases q:veqL ((X.toList.drop o).take c) ((Y.toList.drop o).take c)
     ·simp only [Bool.not_false,if_true,Bool.false_and,Sem.run_pure]
     ·simp only [Bool.not_true,Bool.false_eq_true,if_false,Bool.true_and];exact r
    ·cases h
   ·cases h
omit P w in
theorem fit_b {xs:List Value} (h:fitL [.b] xs=true):∃ a,xs=[.bool a]:=by
 match xs with
 | []=>simp [fitL] at h
 | [x]=>cases x <;> simp [fitL,fit] at h;exact⟨_,rfl⟩
 | _::_::_=>simp [fitL] at h
omit P w in
theorem fit_i {k:IntKind} {xs:List Value} (h:fitL [.i k] xs=true):∃ a,xs=[.int k a]:=by
 match xs with
 | []=>simp [fitL] at h
 | [x]=>cases x <;> simp [fitL,fit] at h;subst h;exact⟨_,rfl⟩
 | _::_::_=>simp [fitL] at h
omit P w in
theorem fit_s {xs:List Value} (h:fitL [.s] xs=true):∃ a,xs=[.string a]:=by
 match xs with
 | []=>simp [fitL] at h
 | [x]=>cases x <;> simp [fitL,fit] at h;exact⟨_,rfl⟩
 | _::_::_=>simp [fitL] at h
theorem eq_law:∀ d,EqLaw P d
 | 0,t,l,h,_,_,_,_,_,_,_=>by simp [eqSh] at h
 | d+1,t,l,h,D,hD,xs,ys,w,hx,hy=>by
  obtain⟨D,rfl⟩:∃ D',D=D'+1:=⟨D - 1,by omega⟩
  have hD':d≤D:=by omega
  unfold eqSh at h
  split at h
  ·rename_i hu
   cases h
   obtain⟨a,rfl⟩:=fit_b hx
   obtain⟨b,rfl⟩:=fit_b hy
   have ht:tag P t=some false:=by simp [tag,hu]
   simp only [mkV,ht,Option.some.injEq,Bool.false_eq_true,if_false,List.headD]
   rw [run_equalIn_bool' w D t a b hu]
   simp [veqL,veq]
  ·rename_i k hu
   cases h
   obtain⟨a,rfl⟩:=fit_i hx
   obtain⟨b,rfl⟩:=fit_i hy
   have ht:tag P t=some false:=by simp [tag,hu]
   simp only [mkV,ht,Option.some.injEq,Bool.false_eq_true,if_false,List.headD]
   rw [run_equalIn_int w D t k k a b hu]
   congr 1
   simp only [veqL,veq,decide_true,Bool.true_and,Bool.and_true]
   rw [Bool.eq_iff_iff];simp
  ·rename_i hu
   cases h
   obtain⟨a,rfl⟩:=fit_s hx
   obtain⟨b,rfl⟩:=fit_s hy
   have ht:tag P t=some false:=by simp [tag,hu]
   simp only [mkV,ht,Option.some.injEq,Bool.false_eq_true,if_false,List.headD]
   rw [run_equalIn_string w D t a b hu,str_beq]
   simp [veqL,veq]
  ·rename_i n e hu
   split at h
   ·rename_i l1 c h1 hc
    split at h
    ·rename_i hlc
     cases h
     have ht:tag P t=some true:=by simp [tag,hu]
     obtain⟨i,hi⟩:∃ i,P.info? e=some i:=by
      unfold tsz at hc
      cases hi:P.info? e with
      | none=>simp [hi] at hc
      | some i=>exact⟨i,rfl⟩
     have hce:P.cellsOf e=c:=by
      unfold tsz at hc
      simp [Program.cellsOf,hc]
     simp only [mkV,ht,if_true]
     rw [run_equalIn_array w D xs.toArray ys.toArray hu hi,hce,List.range_eq_range']
     have:=items_law (eq_law d) h1 hc hlc hD' xs.toArray ys.toArray n 0 w (by simpa using hx) (by simpa using hy)
     simpa using this
    ·cases h
   ·cases h
  ·rename_i fs hu
   split at h
   ·cases h
   ·rename_i hs
    have ht:tag P t=some true:=by simp [tag,hu]
    have hfs:P.fieldsOf t=fs:=by simp [Program.fieldsOf,hu]
    simp only [mkV,ht,if_true]
    rw [run_equalIn_struct w D t xs.toArray ys.toArray (by rw [hfs];exact hu) (by simpa using hs),hfs]
    have:=fields_law (eq_law d) hD' xs.toArray ys.toArray fs.toList 0 l w h (by simpa using hx) (by simpa using hy)
    simpa using this
  ·cases h
end
end Go.VL
