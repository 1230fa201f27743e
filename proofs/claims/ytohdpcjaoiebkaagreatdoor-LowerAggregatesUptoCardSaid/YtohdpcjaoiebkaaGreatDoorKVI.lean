/- Merged out of my text VI. -/
import Derived.Test.YtohdpcjaoiebkaaGreatDoorKVD
import Derived.ChangeKeysEq
import Derived.Laws.StructEq
set_option linter.unusedSimpArgs false
set_option linter.unusedVariables false
namespace Go.VL
open Go.RowKit
def veq:Value→Value→Bool
 | .bool a,.bool b=>a == b
 | .int k a,.int k' b=>decide (k=k') && decide (a=b)
 | .string a,.string b=>decide (a=b)
 | _,_=>false
def xx:List Value→List Value→Bool
 | [],[]=>true
 | x::xs,y::ys=>veq x y && xx xs ys
 | _,_=>false
def W7 (P:Program) (f:TypeId→Option (List Sh)):Nat→List Field→Option (List Sh)
 | _,[]=>some []
 | o, fd :: r => if fd.name = "_" ∨ fd.offset ≠ o then none else match f fd.type, qV P fd.type with
  | some l,some c=>if l.length=c then (W7 P f (o+c) r).map (l++·) else none
  | _,_=>none
def yZ (P:Program):Nat→TypeId→Option (List Sh)
 | 0,_=>none
 | d+1,t=>match P.underlying t with
  | some .bool=>some [.b]
  | some (.int k)=>some [.i k]
  | some .string=>some [.s]
  | some (.array n e)=>match yZ P d e,qV P e with
   | some l,some c=>if l.length=c then some ((List.replicate n l).flatten) else none
   | _,_=>none
  | some (.struct fs)=>if P.stoodInHeld t=true then none else W7 P (yZ P d) 0 fs.toList
  | _=>none
def JH (P:Program) (t:TypeId) (xs:List Value):Value:=if zN P t=some true then .agg xs.toArray else xs.headD undef
theorem xa:∀ {l:List Sh} {xs:List Value},zk l xs=true→xs.length=l.length
 | [],[],_=>rfl
 | _::_,_::_,h=>by simp only [zk,Bool.and_eq_true] at h;simp [xa h.2]
 | [],_::_,h=>by simp [zk] at h
 | _::_,[],h=>by simp [zk] at h
theorem xY:∀ {l l':List Sh} {xs:List Value},zk (l++l') xs=true→zk l (xs.take l.length)=true∧zk l' (xs.drop l.length)=true
 | [],l',xs,h=>by simpa [zk] using h
 | a::l,l',x::xs,h=>by
  simp only [List.cons_append,zk,Bool.and_eq_true] at h
  have:=xY h.2
  simp [zk,h.1,this]
 | a::l,l',[],h=>by simp [zk] at h
section
variable {P:Program} {w:World}
theorem kO {e:TypeId} {c:Nat} {zs:Array Value} {off:Nat} {d:Nat} {l:List Sh} (hl:yZ P d e=some l) (hc:qV P e=some c) (hlc:l.length=c) (hf:zk l ((zs.toList.drop off).take c)=true) :
  (part e zs off).run P w=.ok (JH P e ((zs.toList.drop off).take c)) w:=by
 have htag:∃ b,zN P e=some b∧(b=false→c=1):=by
  cases d with
  | zero=>simp [yZ] at hl
  | succ d =>
   unfold yZ at hl
   unfold zN
   split at hl <;> rename_i hu <;> try simp only [hu]
   ·exact⟨false,rfl,fun _=>by cases hl;exact hlc.symm⟩
   ·exact⟨false,rfl,fun _=>by cases hl;exact hlc.symm⟩
   ·exact⟨false,rfl,fun _=>by cases hl;exact hlc.symm⟩
   ·exact⟨true,rfl,fun h=>by cases h⟩
   ·exact⟨true,rfl,fun h=>by cases h⟩
   ·cases hl
 obtain⟨b,hb,h1⟩:=htag
 have hlen:=xa hf
 cases b with
 | true =>
  simp only [part,Sem.run_bind,uY hb,Result.andThen_ok,if_true,zx hc,Sem.run_pure,JH,hb]
  congr 2
  apply Array.ext'
  simp [List.extract,Nat.add_sub_cancel_left]
 | false =>
  obtain rfl:=h1 rfl
  simp only [hlc] at hlen
  have:∃ x,zs[off]? = some x∧(zs.toList.drop off).take 1=[x]:=by
   cases hd:zs.toList.drop off with
   | nil=>rw [hd] at hlen;simp at hlen
   | cons x r =>
    refine⟨x,?_,by simp⟩
    have:zs.toList[off]? = some x:=by
     have:=congrArg (fun l=>l[0]?) hd
     simpa [List.getElem?_drop] using this
    simpa using this
  obtain⟨x,hx,hx'⟩:=this
  simp only [part,Sem.run_bind,uY hb,Result.andThen_ok,Bool.false_eq_true,if_false,hx,Sem.run_pure,JH,hb,hx']
  simp
omit P w in
theorem uk:∀ {A A' B B':List Value},A.length=B.length→xx (A++A') (B++B')=(xx A B && xx A' B')
 | [],_,[],_,_=>by simp [xx]
 | a::A,A',b::B,B',h=>by
  simp only [List.length_cons,Nat.succ.injEq] at h
  simp only [List.cons_append,xx,uk h,Bool.and_assoc]
 | [],_,_::_,_,h=>by simp at h
 | _::_,_,[],_,h=>by simp at h
def qtf (P:Program) (d:Nat):Prop:=∀ t l,yZ P d t=some l→∀ D,d≤D→∀ xs ys w,zk l xs=true→zk l ys=true→(Op.equalIn D t (JH P t xs) (JH P t ys)).run P w=.ok (xx xs ys) w
theorem Y7 {d:Nat} (ih:qtf P d) {e:TypeId} {l:List Sh} {c:Nat} (hl:yZ P d e=some l) (hc:qV P e=some c) (hlc:l.length=c) {D:Nat} (hD:d≤D) (X Y:Array Value):∀ (m j:Nat) (w:World),
  zk ((List.replicate m l).flatten) (X.toList.drop (j * c))=true→zk ((List.replicate m l).flatten) (Y.toList.drop (j * c))=true →
  (Op.eqItems D e c X Y (List.range' j m)).run P w=.ok (xx (X.toList.drop (j * c)) (Y.toList.drop (j * c))) w
 | 0,j,w,hx,hy=>by
  have h1:=xa hx
  have h2:=xa hy
  simp at h1 h2
  have e1:X.toList.drop (j * c)=[]:=List.drop_eq_nil_of_le (by simp;omega)
  have e2:Y.toList.drop (j * c)=[]:=List.drop_eq_nil_of_le (by simp;omega)
  simp [Op.eqItems,e1,e2,xx]
 | m+1,j,w,hx,hy=>by
  simp only [List.replicate_succ,List.flatten_cons] at hx hy
  have ax:=xY hx
  have ay:=xY hy
  rw [hlc] at ax ay
  simp only [List.drop_drop] at ax ay
  rw [show j * c+c=(j+1) * c by rw [Nat.add_mul];omega] at ax ay
  have r:=Y7 ih hl hc hlc hD X Y m (j+1) w ax.2 ay.2
  simp only [List.range'_succ,Op.eqItems,Sem.run_bind,kO hl hc hlc ax.1,kO hl hc hlc ay.1,Result.andThen_ok,ih e l hl D hD _ _ w ax.1 ay.1]
  have ex:X.toList.drop (j * c)=(X.toList.drop (j * c)).take c++X.toList.drop ((j+1) * c):=by
   rw [show (j+1) * c=j * c+c by rw [Nat.add_mul];omega,← List.drop_drop,List.take_append_drop]
  have ey:Y.toList.drop (j * c)=(Y.toList.drop (j * c)).take c++Y.toList.drop ((j+1) * c):=by
   rw [show (j+1) * c=j * c+c by rw [Nat.add_mul];omega,← List.drop_drop,List.take_append_drop]
  have hdec:xx (X.toList.drop (j * c)) (Y.toList.drop (j * c))=(xx ((X.toList.drop (j * c)).take c) ((Y.toList.drop (j * c)).take c) && xx (X.toList.drop ((j+1) * c)) (Y.toList.drop ((j+1) * c))):=by
   rw [← uk (by rw [xa ax.1,xa ay.1]),← ex,← ey]
  rw [hdec]
  cases q:xx ((X.toList.drop (j * c)).take c) ((Y.toList.drop (j * c)).take c)
  ·simp only [Bool.not_false,if_true,Bool.false_and,Sem.run_pure]
  ·simp only [Bool.not_true,Bool.false_eq_true,if_false,Bool.true_and];exact r
theorem W3 {d:Nat} (ih:qtf P d) {D:Nat} (hD:d≤D) (X Y:Array Value):∀ (fs:List Field) (o:Nat) (l:List Sh) (w:World),W7 P (yZ P d) o fs=some l →
  zk l (X.toList.drop o)=true→zk l (Y.toList.drop o)=true→(Op.eqFields D X Y fs).run P w=.ok (xx (X.toList.drop o) (Y.toList.drop o)) w
 | [],o,l,w,h,hx,hy=>by
  simp only [W7,Option.some.injEq] at h
  subst h
  have h1:=xa hx
  have h2:=xa hy
  simp at h1 h2
  have e1:X.toList.drop o=[]:=List.drop_eq_nil_of_le (by simp;omega)
  have e2:Y.toList.drop o=[]:=List.drop_eq_nil_of_le (by simp;omega)
  simp [Op.eqFields,e1,e2,xx]
 | f::fs,o,l,w,h,hx,hy=>by
  simp only [W7] at h
  split at h
  ·cases h
  ·rename_i hno
   have hn : f.name ≠ "_" := fun e => hno (.inl e)
   have ho:f.offset=o:=Decidable.byContradiction fun e=>hno (.inr e)
   split at h
   ·rename_i l1 c h1 hc
    split at h
    ·rename_i hlc
     simp only [Option.map_eq_some_iff] at h
     obtain⟨l2,h2,rfl⟩:=h
     have ax:=xY hx
     have ay:=xY hy
     rw [hlc] at ax ay
     simp only [List.drop_drop] at ax ay
     have r:=W3 ih hD X Y fs (o+c) l2 w h2 ax.2 ay.2
     simp only [Op.eqFields,if_pos hn,ho,Sem.run_bind,kO h1 hc hlc ax.1,kO h1 hc hlc ay.1,Result.andThen_ok,ih f.type l1 h1 D hD _ _ w ax.1 ay.1]
     have ex:X.toList.drop o=(X.toList.drop o).take c++X.toList.drop (o+c):=by rw [← List.drop_drop,List.take_append_drop]
     have ey:Y.toList.drop o=(Y.toList.drop o).take c++Y.toList.drop (o+c):=by rw [← List.drop_drop,List.take_append_drop]
     have hdec:xx (X.toList.drop o) (Y.toList.drop o)=(xx ((X.toList.drop o).take c) ((Y.toList.drop o).take c) && xx (X.toList.drop (o+c)) (Y.toList.drop (o+c))):=by
      rw [← uk (by rw [xa ax.1,xa ay.1]),← ex,← ey]
     rw [hdec]
     cases q:xx ((X.toList.drop o).take c) ((Y.toList.drop o).take c)
     ·simp only [Bool.not_false,if_true,Bool.false_and,Sem.run_pure]
     ·simp only [Bool.not_true,Bool.false_eq_true,if_false,Bool.true_and];exact r
    ·cases h
   ·cases h
omit P w in
theorem qrp {xs:List Value} (h:zk [.b] xs=true):∃ a,xs=[.bool a]:=by
 match xs with
 | []=>simp [zk] at h
 | [x]=>cases x <;> simp [zk,fit] at h;exact⟨_,rfl⟩
 | _::_::_=>simp [zk] at h
omit P w in
theorem qro {k:IntKind} {xs:List Value} (h:zk [.i k] xs=true):∃ a,xs=[.int k a]:=by
 match xs with
 | []=>simp [zk] at h
 | [x]=>cases x <;> simp [zk,fit] at h;subst h;exact⟨_,rfl⟩
 | _::_::_=>simp [zk] at h
omit P w in
theorem qrn {xs:List Value} (h:zk [.s] xs=true):∃ a,xs=[.string a]:=by
 match xs with
 | []=>simp [zk] at h
 | [x]=>cases x <;> simp [zk,fit] at h;exact⟨_,rfl⟩
 | _::_::_=>simp [zk] at h
theorem W6:∀ d,qtf P d
 | 0,t,l,h,_,_,_,_,_,_,_=>by simp [yZ] at h
 | d+1,t,l,h,D,hD,xs,ys,w,hx,hy=>by
  obtain⟨D,rfl⟩:∃ D',D=D'+1:=⟨D - 1,by omega⟩
  have hD':d≤D:=by omega
  unfold yZ at h
  split at h
  ·rename_i hu
   cases h
   obtain⟨a,rfl⟩:=qrp hx
   obtain⟨b,rfl⟩:=qrp hy
   have ht:zN P t=some false:=by simp [zN,hu]
   simp only [JH,ht,Option.some.injEq,Bool.false_eq_true,if_false,List.headD]
   rw [run_equalIn_bool' w D t a b hu]
   simp [xx,veq]
  ·rename_i k hu
   cases h
   obtain⟨a,rfl⟩:=qro hx
   obtain⟨b,rfl⟩:=qro hy
   have ht:zN P t=some false:=by simp [zN,hu]
   simp only [JH,ht,Option.some.injEq,Bool.false_eq_true,if_false,List.headD]
   rw [run_equalIn_int w D t k k a b hu]
   congr 1
   simp only [xx,veq,decide_true,Bool.true_and,Bool.and_true]
   rw [Bool.eq_iff_iff];simp
  ·rename_i hu
   cases h
   obtain⟨a,rfl⟩:=qrn hx
   obtain⟨b,rfl⟩:=qrn hy
   have ht:zN P t=some false:=by simp [zN,hu]
   simp only [JH,ht,Option.some.injEq,Bool.false_eq_true,if_false,List.headD]
   rw [run_equalIn_string w D t a b hu,qib]
   simp [xx,veq]
  ·rename_i n e hu
   split at h
   ·rename_i l1 c h1 hc
    split at h
    ·rename_i hlc
     cases h
     have ht:zN P t=some true:=by simp [zN,hu]
     obtain⟨i,hi⟩:∃ i,P.info? e=some i:=by
      replace hc:=yD hc
      cases hi:P.info? e with
      | none=>simp [hi] at hc
      | some i=>exact⟨i,rfl⟩
     have hce:P.cellsOf e=c:=by
      replace hc:=yD hc
      simp [Program.cellsOf,hc]
     simp only [JH,ht,if_true]
     rw [run_equalIn_array w D xs.toArray ys.toArray hu hi,hce,List.range_eq_range']
     have:=Y7 (W6 d) h1 hc hlc hD' xs.toArray ys.toArray n 0 w (by simpa using hx) (by simpa using hy)
     simpa using this
    ·cases h
   ·cases h
  ·rename_i fs hu
   split at h
   ·cases h
   ·rename_i hs
    have ht:zN P t=some true:=by simp [zN,hu]
    have hfs:P.fieldsOf t=fs:=by simp [Program.fieldsOf,hu]
    simp only [JH,ht,if_true]
    rw [run_equalIn_struct w D t xs.toArray ys.toArray (by rw [hfs];exact hu) (by simpa using hs),hfs]
    have:=W3 (W6 d) hD' xs.toArray ys.toArray fs.toList 0 l w h (by simpa using hx) (by simpa using hy)
    simpa using this
  ·cases h
end
end Go.VL
