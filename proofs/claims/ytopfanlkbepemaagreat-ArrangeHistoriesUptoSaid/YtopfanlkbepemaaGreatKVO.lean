/- Merged out of my text VO. -/
import Derived.Test.YtopfanlkbepemaaGreatKVM
import Derived.Laws.BytesString
import Derived.Lib.ConvBytes
import Derived.Laws.AppendOwn
namespace Go.VL
open Go.RowKit
def strOf (ns:List Int):ByteArray:=⟨(ns.map fun n=>UInt8.ofNat n.toNat).toArray⟩
theorem strOf_fold (ns:List Int):ns.foldl (fun r n=>r.push (UInt8.ofNat n.toNat)) ByteArray.empty=strOf ns:=by
 have:∀ (ns:List Int) (r:ByteArray),ns.foldl (fun r n=>r.push (UInt8.ofNat n.toNat)) r=⟨r.data++(ns.map fun n=>UInt8.ofNat n.toNat).toArray⟩:=by
  intro ns
  induction ns with
  | nil=>intro r;simp
  | cons n ns ih =>
   intro r
   rw [List.foldl_cons,ih]
   show ByteArray.mk _=ByteArray.mk _
   congr 1
   apply Array.ext'
   simp [ByteArray.push]
 rw [this]
 show ByteArray.mk _=ByteArray.mk _
 congr 1
 apply Array.ext'
 simp [ByteArray.empty,ByteArray.emptyWithCapacity]
 rfl
def BytesF (cs:List V) (k:ByteArray→Prop) (_:Fix k):Prop:=∃ ns:List Int,cs=ns.map (fun n=>V.lit (.int .u8 n))∧k (strOf ns)
def bytesD (P:Program) (S:St) (e:TypeId) (v:V) (K:V→Prop):Prop :=
 match v with
 | .lit (.slice none _ _)=>P.underlying e=some (.int .u8)∧K (.lit (.string ⟨#[]⟩))
 | .lit (.slice (some ⟨b,o,none⟩) n _)=>P.underlying e=some (.int .u8)∧match getB S.boxes b with
  | some cs=>o+n≤cs.length∧BytesF ((cs.drop o).take n) (fun x=>K (.lit (.string x))) .mk
  | none=>False
 | .list _ k es=>P.underlying e=some (.int .u8)∧k=1∧(∀ e ∈ es,e.length=1)∧BytesF es.flatten (fun x=>K (.lit (.string x))) .mk
 | _=>False
abbrev byteRows (s:ByteArray):List (List V):=s.data.toList.map fun c=>[V.lit (.int .u8 c.toNat)]
def strB (P:Program) (e:TypeId) (v:V) (K:V→Prop):Prop :=
 match v with
 | .lit (.string s)=>P.underlying e=some (.int .u8)∧K (.list none 1 (byteRows s))
 | _=>False
def convB (P:Program) (S:St) (s t:TypeId) (v:V) (K:V→Prop):Prop :=
 match P.underlying s,P.underlying t with
 | some (.slice e),some .string=>bytesD P S e v K
 | some .string,some (.slice e)=>strB P e v K
 | _,_=>convK P s t v K
section
variable {P:Program}
theorem run_bytes {w:World} {I:Cells} {b o:Nat} {ns:List Int} {c:Nat} {s t e:TypeId} (hs:P.underlying s=some (.slice e)) (he:P.underlying e=some (.int .u8)) (ht:P.underlying t=some .string)
  (h:Has w I (ns.map fun n=>V.lit (.int .u8 n)) b o):(convert s t (.slice (some ⟨b,o,none⟩) ns.length c)).run P w=.ok (.string (strOf ns)) w:=by
 rw [run_convert_bytes_string w s t e _ _ _ hs he ht]
 rw [run_bytesToString w _ _ _ ns,strOf_fold]
 have:=run_loadCells (P:=P) w ⟨b,o,none⟩ ns.length (fun j=>(ns.map (Value.int .u8)).getD j undef) (fun j hj=>by
  obtain⟨x,h1,h2⟩:=h j (.lit (.int .u8 ns[j])) (by simp [hj])
  simp only [V.rep] at h2
  rw [Addr.add_lit,h1,h2]
  simp [List.getD,hj])
 rw [this]
 congr 1
 apply Array.ext'
 simp only []
 refine List.ext_getElem? fun j=>?_
 by_cases hj:j < ns.length
 ·simp [hj,List.getD]
 ·simp [hj]
theorem Keeps.bytes {w:World} {I:Cells} (e:TypeId) (s:ByteArray) (hin:∀ b o,I b o→b < w.heap.size) :
  Keeps (fun b=>b < w.heap.size) w I (Lib.bytesWorld w e s) (fun b i=>I b i∨(b=w.heap.size∧i < s.size)):=by
 have hold:=fun b hb=>Lib.bytesWorld_at_old w e s b hb
 refine⟨rfl,rfl,rfl,by rw [Lib.bytesWorld_size];omega,hold,.of (fun b i hi=>⟨.inl hi,Lib.bytesWorld_old w e s _ (hin b i hi)⟩) hold,fun b i hb hi=>?_,Nat.le_succ _⟩
 rcases hi with hi | ⟨rfl,_⟩
 ·exact hi
 ·omega
theorem bytes_reps {w:World} {I:Cells}:∀ l:List UInt8,V.reps w I (l.map fun c=>[V.lit (.int .u8 c.toNat)]).flatten (l.map fun c=>Value.int .u8 c.toNat)
 | []=>by simp only [List.map_nil,List.flatten_nil,V.reps]
 | c::l=>by
  simp only [List.map_cons,List.flatten_cons,List.cons_append,List.nil_append,V.reps,V.rep]
  exact⟨trivial,bytes_reps l⟩
theorem step_convert {C S} {o:Oper} {s t:TypeId} {x:Operand} {K:St→Prop} (ho:o.op=.convert s t x) (hd:dstOk C.N o=true) (h:convB C.P S s t (VL.ev S.σ x) fun v=>K (S.put o.dst v)):Step C S o K:=by
 have fin:∀ ns:List Int,K (S.put o.dst (.lit (.string (strOf ns))))→(∀ a w I,Γ C S a w I→(convert s t (a.eval x)).run C.P w=.ok (.string (strOf ns)) w)→Step C S o K:=fun ns hK hr =>
  Step.of_value fun a w I hΓ=>⟨.string (strOf ns),w,_,I,by simp only [execOp,ho,Sem.run_bind,hr a w I hΓ,Result.andThen_ok,Sem.run_pure],⟨hΓ.1.put o.dst (dstOk_spec hd) (v:=.lit (.string (strOf ns))) (by simp only [V.rep]),hΓ.2.put _ _⟩,hK⟩
 unfold convB at h
 split at h
 rotate_left
 ·rename_i e hs ht
  unfold strB at h
  split at h
  ·rename_i str hx
   obtain⟨he,hK⟩:=h
   refine Step.of_value fun a w I hΓ=>?_
   have rx:=hΓ.ev x
   rw [hx] at rx
   simp only [V.rep] at rx
   have K:=Keeps.bytes (w:=w) (I:=I) e str hΓ.2.heap.inn
   have g1:=hΓ.2.quiet _ (fun _ hb=>hb) K (fun b i hi=>by
    rw [Lib.bytesWorld_size]
    rcases hi with hi | ⟨rfl,_⟩
    ·have:=hΓ.2.heap.inn b i hi;omega
    ·omega)
   refine⟨.slice (some ⟨w.heap.size,0,none⟩) str.size (grownCap w str.size 0 e),_,_,_,by simp only [execOp,ho,Sem.run_bind,rx,Lib.run_convert_string_bytes w s t e str hs ht he,Result.andThen_ok,Sem.run_pure],⟨(hΓ.1.mono K.stays).put o.dst (dstOk_spec hd) (v:=.list none 1 (byteRows str)) ?_,g1.put _ _⟩,hK⟩
   simp only [V.rep]
   have hl:(byteRows str).length=str.size:=by simp [byteRows]
   rw [hl]
   refine⟨(by intro y hy;cases hy),some ⟨w.heap.size,0,none⟩,_,rfl,grownCap_ge _ _ _ _,.inr ⟨w.heap.size,0,rfl,lies_of_cells (bytes_reps str.data.toList) (fun r hr=>?_) fun j v hv=>?_⟩⟩
   ·obtain⟨c,_,rfl⟩:=List.mem_map.1 hr
    rfl
   ·rw [List.getElem?_map,Option.map_eq_some_iff] at hv
    obtain⟨c,hc,rfl⟩:=hv
    have hj:j < str.size:=by
     have:=(List.getElem?_eq_some_iff.1 hc).1
     simpa using this
    refine⟨?_,.inr ⟨rfl,by omega⟩,?_⟩
    ·rw [Nat.zero_add,Lib.bytesWorld_cell w e str j hj,List.getD_eq_getElem?_getD,hc]
     rfl
    ·simp [one]
  ·exact h.elim
 ·obtain⟨v,hv,hk⟩:=det_conv (C:=C) ho h
  exact Step.det hd hv hk
 rename_i e hs ht
 unfold bytesD at h
 split at h
 ·rename_i n c hx
  obtain⟨he,hK⟩:=h
  refine fin [] hK fun a w I hΓ=>?_
  have rx:=hΓ.ev x
  rw [hx] at rx
  simp only [V.rep] at rx
  rw [rx,run_convert_bytes_string w s t e _ _ _ hs he ht]
  rfl
 ·rename_i b off n c hx
  obtain⟨he,h⟩:=h
  split at h
  ·rename_i cs hb
   obtain⟨hle,ns,hns,hK⟩:=h
   refine fin ns hK fun a w I hΓ=>?_
   have rx:=hΓ.ev x
   rw [hx] at rx
   simp only [V.rep] at rx
   have hl:ns.length=n:=by
    have:=congrArg List.length hns
    simp at this
    omega
   have hh:=(Has.of_box (hΓ.2.heap.bx _ (getB_mem hb))).drop off
   rw [rx,← hl]
   refine run_bytes hs he ht (I:=I) fun j v hv=>?_
   rw [← hns] at hv
   have hv':(cs.drop off)[j]? = some v:=by
    rw [List.getElem?_take] at hv
    split at hv
    ·exact hv
    ·cases hv
   simpa using hh j v hv'
  ·exact h.elim
 ·rename_i own k es hx
  obtain⟨he,rfl,hlen,ns,hns,hK⟩:=h
  refine fin ns hK fun a w I hΓ=>?_
  have rx:=hΓ.ev x
  rw [hx] at rx
  simp only [V.rep] at rx
  obtain⟨_,ad,c,h1,h2,h3⟩:=rx
  have hfl:∀ es:List (List V),(∀ e ∈ es,e.length=1)→es.flatten.length=es.length:=by
   intro es
   induction es with
   | nil=>intro _;rfl
   | cons e es ih=>intro h;simp [ih (fun e he=>h e (List.mem_cons_of_mem _ he)),h e List.mem_cons_self];omega
  have hl:ns.length=es.length:=by
   have:=congrArg List.length hns
   rw [hfl es hlen] at this
   simpa using this.symm
  rcases h3 with h3 | ⟨b,off,h4,h5⟩
  ·subst h3
   have:ns=[]:=by simpa using hl
   subst this
   cases ad with
   | none =>
    rw [h1,run_convert_bytes_string w s t e _ _ _ hs he ht]
    rfl
   | some ad =>
    rw [h1,run_convert_bytes_string w s t e _ _ _ hs he ht,run_bytesToString w ad _ _ [] (by simp [loadCells];rfl),strOf_fold]
  ·subst h4
   rw [h1,← hl]
   refine run_bytes hs he ht (I:=I) ?_
   have hat:V.ats w I es.flatten b off:=by
    clear hns hl hlen h1 h2 hx
    induction es generalizing off with
    | nil=>simp only [List.flatten_nil,V.ats]
    | cons e es ih =>
     simp only [V.lies] at h5
     rw [List.flatten_cons,ats_append]
     exact⟨h5.1,by rw [h5.2.1];exact ih _ h5.2.2⟩
   rw [hns] at hat
   exact Has.of_ats hat
 ·exact h.elim
end
end Go.VL
