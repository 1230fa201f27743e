/- Merged out of my text VQ. -/
import Derived.Test.YtopfanlkbepemaaGreatKVT
import Derived.Shelf.SlSortCmp.NoneTotal
namespace Go.VL
open Go.RowKit Go.Sort Go.Shelf Go.Lib Go.Proofs
section
variable {α β:Type}
theorem drop_blocks {c:α→List β} {k:Nat} (hc:∀ x,(c x).length=k):∀ (l:List α) (i:Nat),(l.map c).flatten.drop (i * k)=((l.drop i).map c).flatten
 | l,0=>by simp
 | [],i+1=>by simp
 | x::l,i+1=>by
  have:=drop_blocks hc l i
  rw [List.map_cons,List.flatten_cons,List.drop_succ_cons,← this,Nat.add_mul,Nat.one_mul,Nat.add_comm,← List.drop_drop,List.drop_left' (hc x)]
theorem cut_block {c:α→List β} {k:Nat} (hc:∀ x,(c x).length=k) (l:List α) (rest:List β) (i:Nat) (hi:i < l.length):(((l.map c).flatten++rest).drop (i * k)).take k=c l[i]:=by
 have hfl:∀ l:List α,(l.map c).flatten.length=l.length * k:=fun l=>by
  induction l with
  | nil=>simp
  | cons x l ih=>simp only [List.map_cons,List.flatten_cons,List.length_append,hc,ih,List.length_cons,Nat.add_mul,Nat.one_mul];omega
 rw [List.drop_append_of_le_length (by rw [hfl];exact Nat.mul_le_mul_right _ (Nat.le_of_lt hi)),drop_blocks hc,List.drop_eq_getElem_cons hi,List.map_cons,List.flatten_cons,List.append_assoc,List.take_left' (hc _)]
end
theorem keeps_grow {W w':World} {I I':Cells} (h:Keeps (fun b=>b < W.heap.size∧b ∉ ([]:List (Nat × B)).map (·.1)) W I w' I'):∃ q os',w'=grow (W.drewN q) os':=by
 refine⟨w'.drawn - W.drawn,w'.heap.extract W.heap.size w'.heap.size,?_⟩
 have hh:w'.heap=W.heap++w'.heap.extract W.heap.size w'.heap.size:=by
  apply Array.ext_getElem?
  intro i
  have hs:=h.size
  rcases Nat.lt_or_ge i W.heap.size with hi | hi
  ·rw [h.block i ⟨hi,by simp⟩,Array.getElem?_append_left hi]
  ·rw [Array.getElem?_append_right hi]
   rcases Nat.lt_or_ge i w'.heap.size with hi' | hi'
   ·rw [Array.getElem?_eq_getElem hi',Array.getElem?_eq_getElem (by simp;omega)]
    simp only [Array.getElem_extract]
    congr 2;omega
   ·rw [Array.getElem?_eq_none hi',Array.getElem?_eq_none (by simp;omega)]
 have h1:=h.os;have h2:=h.tape;have h3:=h.output;have h4:=h.drawn
 cases w';cases W
 simp only [grow,World.drewN] at *
 subst h1 h2 h3
 congr 1
 omega
section
variable {α:Type} [Inhabited α] (enc:α→List Value) (k:Nat) (w:World) (b m:Nat) (dk:Array α) (os:Array Obj)
theorem sw_heap {arr:Array Value} {te:TypeId} (hb:w.heap[b]? = some (.cells arr te (0,0))):(sortWorldK enc k w b 0 m dk os).heap[b]? = some (.cells (putCells id 0 (flatK enc k dk) arr) te (0,0)):=by
 have hlt:b < w.heap.size:=(Array.getElem?_eq_some_iff.1 hb).1
 unfold sortWorldK putRowK putRow mapBlock grow Go.Sort.ahead
 simp only []
 rw [Array.getElem?_append_left (by simpa using hlt),Array.getElem?_modify,if_pos rfl,hb]
 rfl
theorem sw_other {b':Nat} (h:b' ≠ b) (hlt:b' < w.heap.size):(sortWorldK enc k w b 0 m dk os).heap[b']? = w.heap[b']? := by
 unfold sortWorldK putRowK putRow mapBlock grow Go.Sort.ahead
 simp only []
 rw [Array.getElem?_append_left (by simpa using hlt),Array.getElem?_modify,if_neg (fun e=>h e.symm)]
theorem sw_size:w.heap.size≤(sortWorldK enc k w b 0 m dk os).heap.size:=by
 unfold sortWorldK putRowK putRow mapBlock grow Go.Sort.ahead
 simp
theorem sw_keeps {I:Cells} (F:Nat→Prop) (hF:∀ b',F b'→b' ≠ b∧b' < w.heap.size) (hI:∀ o,¬ I b o) (hin:∀ b' o,I b' o→b' < w.heap.size) (hd:∀ x,w.heap[b]? ≠ some (.deferred x)):Keeps F w I (sortWorldK enc k w b 0 m dk os) I :=
 ⟨rfl,rfl,rfl,sw_size enc k w b m dk os,fun b' hb'=>sw_other enc k w b m dk os (hF b' hb').1 (hF b' hb').2,⟨fun b' o hi=>⟨hi,by
  have hne:b' ≠ b:=fun e=>hI o (e▸hi)
  simp only [World.cell?, sw_other enc k w b m dk os hne (hin b' o hi)]⟩,fun b' x hx=>by
  have hne:b' ≠ b:=fun e=>hd x (e▸hx)
  rw [sw_other enc k w b m dk os hne (Array.getElem?_eq_some_iff.1 hx).1];exact hx⟩,fun _ _ _ h=>h,by
  unfold sortWorldK putRowK putRow mapBlock grow Go.Sort.ahead
  simp⟩
end
theorem flatK_list {α:Type} [Inhabited α] (enc:α→List Value) {k:Nat} (hk:∀ x,(enc x).length=k) (d:Array α):(flatK enc k d).toList=d.toList.flatMap enc:=by
 have main:∀ l:List α,(List.range (l.length * k)).map (fun t=>(enc (l.getD (t / k) default)).getD (t % k) default)=l.flatMap enc:=by
  intro l
  induction l with
  | nil=>simp
  | cons x l ih =>
   rw [List.length_cons,Nat.add_mul,Nat.one_mul,Nat.add_comm,List.range_add,List.map_append,List.flatMap_cons,List.map_map,← ih]
   congr 1
   ·refine List.ext_getElem (by simp [hk]) fun t h1 h2=>?_
    have ht:t < k:=by simpa using h1
    simp [Nat.div_eq_of_lt ht,Nat.mod_eq_of_lt ht,List.getD,h2]
   ·refine List.map_congr_left fun t ht=>?_
    have hk0:0 < k:=by
     rcases Nat.eq_zero_or_pos k with h | h
     ·subst h;simp at ht
     ·exact h
    simp [Nat.add_div_left _ hk0,Nat.add_mod_left]
 rw [← main d.toList]
 unfold flatK
 simp only [Array.toList_map,Array.toList_range,Array.length_toList]
 refine List.map_congr_left fun t _=>?_
 simp [Array.getElem!_eq_getD,List.getElem!_eq_getElem?_getD,List.getD,Array.getD_eq_getD_getElem?]
theorem putCells_list (F arr:Array Value) (h:F.size≤arr.size):(putCells id 0 F arr).toList=F.toList++arr.toList.drop F.size:=by
 refine List.ext_getElem (by simp [putCells];omega) fun t h1 h2=>?_
 have ht:t < arr.size:=by simpa [putCells] using h1
 simp only [putCells,Array.getElem_toList,Array.getElem_mapIdx,Nat.zero_add,Nat.zero_le,true_and,Nat.sub_zero,id]
 by_cases hF:t < F.size
 ·rw [if_pos hF,List.getElem_append_left (by simpa using hF),getElem!_pos F t hF]
  simp
 ·rw [if_neg hF,List.getElem_append_right (by simpa using hF)]
  simp only [List.getElem_drop,Array.getElem_toList,Array.length_toList]
  congr 1;omega
theorem cuts_all (xs:List Value) (k:Nat):∀ n,(List.range n).flatMap (fun i=>(xs.drop (i * k)).take k)=xs.take (n * k)
 | 0=>by simp
 | n+1=>by
  rw [List.range_succ,List.flatMap_append,cuts_all xs k n,Nat.add_mul,Nat.one_mul,List.take_add]
  simp
def fins (n:Nat):List (Fin n):=List.ofFn fun i=>i
theorem fins_len (n:Nat):(fins n).length=n:=by simp [fins]
theorem fin_vals (n:Nat):(fins n).map Fin.val=List.range n:=by
 refine List.ext_getElem (by simp [fins]) fun i h1 h2=>by simp [fins]
theorem fin_get {α:Type} (l:List α):(fins l.length).map (fun i=>l[i])=l:=by
 refine List.ext_getElem (by simp [fins]) fun i h1 h2=>by simp [fins]
theorem Ok.sortFunc {P:Program} {ρ:Ren} (L:SlLaysF0.n6 P ρ) {k:Nat} (aE:∀ w,(isAgg (ρ.t 24)).run P w=.ok true w) (zE:∀ w,(Go.sizeOf (ρ.t 24)).run P w=.ok k w)
  {α:Type} (c:α→List V) (hc:∀ x,(c x).length=k) (cf:α→α→Int) (hO:SWO (ltOf cf)) {g:FuncId} (eg:∀ args w,(callFunc g args).run P w=.ok (.enter g args) w)
  (l:List α) (hcmp:∀ x ∈ l,∀ y ∈ l,OkP P g [.agg (c x),.agg (c y)] (.lit (.int .i64 (cf x y)))) (rest:List V) (b cap:Nat) (hsz:l.length < 4611686018427387904) :
  Ok P (ρ.f 6) [.lit (.slice (some ⟨b,0,none⟩) l.length cap),.lit (.func (.func g) #[] #[])] [(b,.c ((l.map c).flatten++rest))] fun v bs rs =>
   v=.tup []∧rs=[]∧∃ l':List α,l'.Perm l∧l'.Pairwise (fun x y=>¬ cf y x < 0)∧bs=[(b,.c ((l'.map c).flatten++rest))]:=by
 intro w I xs hr hH
 obtain rfl:xs=[.slice (some ⟨b,0,none⟩) l.length cap,.func (.func g) #[] #[]]:=by
  match xs,hr with
  | [x,y],hr=>simp only [V.reps,V.rep,and_true] at hr;rw [hr.1,hr.2]
  | [],hr=>simp [V.reps] at hr
  | [_],hr=>simp [V.reps] at hr
  | _::_::_::_,hr=>simp [V.reps] at hr
 obtain⟨arr,te,q1,q2,q3,q4⟩:=hH.bx _ (List.mem_singleton.2 rfl)
 have hblk:b < w.heap.size:=(Array.getElem?_eq_some_iff.1 q1).1
 have hfl:∀ l:List α,(l.map c).flatten.length=l.length * k:=fun l=>by
  induction l with
  | nil=>simp
  | cons x l ih=>simp only [List.map_cons,List.flatten_cons,List.length_append,hc,ih,List.length_cons,Nat.add_mul,Nat.one_mul];omega
 have hal:arr.size=l.length * k+rest.length:=by have:=reps_length q3;simpa [hfl] using this
 have tup:V.rep w I (.tup []) (.tuple #[]):=by simp only [V.rep];exact⟨#[],rfl,by simp [V.reps]⟩
 by_cases h0:l.length=0
 ·have hl:l=[]:=List.eq_nil_of_length_eq_zero h0
  subst hl
  refine(AnyF.slices_SortFunc_none L (some ⟨b,0,none⟩) cap (.func (.func g) #[] #[]) w).mono fun e w' ⟨he,hw⟩=>?_
  subst hw
  exact⟨_,.tup [],_,[],I,he,tup,Keeps.refl _ _ _,hH,fun b' hb' h=>h.2 (by simpa [blks] using hb'),rfl,rfl,[],List.Perm.refl _,List.Pairwise.nil,rfl⟩
 ·haveI:Inhabited (Fin l.length):=⟨⟨0,by omega⟩⟩
  let enc:Fin l.length→List Value:=fun i=>(arr.toList.drop (i.val * k)).take k
  have henc:∀ i,(enc i).length=k:=fun i=>by
   have:(i.val+1) * k≤l.length * k:=Nat.mul_le_mul_right _ i.isLt
   simp only [enc,List.length_take,List.length_drop,Array.length_toList,hal,Nat.add_mul,Nat.one_mul] at this ⊢
   omega
  have hrep:∀ i:Fin l.length,V.reps w I (c l[i]) (enc i):=fun i=>by
   have:=reps_take k (reps_drop (i.val * k) q3)
   rw [cut_block hc l rest i.val i.isLt] at this
   exact this
  have hone:∀ i,∀ v ∈ enc i,one v:=fun i v hv=>q2 v (List.mem_of_mem_drop (List.mem_of_mem_take hv))
  have hO':SWO (ltOf fun i j:Fin l.length=>cf l[i] l[j]):=⟨fun x=>hO.irrefl l[x],fun x y z=>hO.trans l[x] l[y] l[z],fun x y z=>hO.ntrans l[x] l[y] l[z]⟩
  have hfd:((fins l.length).toArray.toList).flatMap enc=arr.toList.take (l.length * k):=by
   rw [← cuts_all arr.toList k l.length,← fin_vals,List.flatMap_map]
  have hHo:HoldsK enc k w b 0 (fins l.length).toArray:=by
   intro j hj
   have hjl:j < l.length * k:=by simpa [fins_len] using hj
   have hget:(flatK enc k (fins l.length).toArray)[j]! = arr[j]'(by omega):=by
    rw [getElem!_pos _ j hj,← Array.getElem_toList]
    simp only [flatK_list enc henc,hfd,List.getElem_take,Array.getElem_toList]
   rw [hget]
   simp [World.cell?, World.frozen?, q1,show j < arr.size by omega]
  have hCL:CmpLays P g #[] enc k (fun i j:Fin l.length=>cf l[i] l[j]) b 0 (fins l.length).toArray.size w:=by
   intro m os dk _ x y
   have hK:=sw_keeps enc k w b m dk os (I:=I) (fun b'=>b' ≠ b∧b' < w.heap.size) (fun _ h=>h) q4 hH.inn (fun x e=>by rw [q1] at e;cases e)
   refine(hcmp l[x] (List.getElem_mem _) l[y] (List.getElem_mem _) (sortWorldK enc k w b 0 m dk os) I [.agg (enc x).toArray,.agg (enc y).toArray] ?_ ?_).mono fun e w' ⟨v,_,_,_,I',he,hv,hk,_,_,hQ,_,_⟩=>?_
   ·simp only [V.reps,V.rep,and_true]
    exact⟨⟨_,rfl,V.reps_mono hK.stays _ _ (hrep x)⟩,⟨_,rfl,V.reps_mono hK.stays _ _ (hrep y)⟩⟩
   ·exact⟨by simp,by simp,by simp [blks],fun b' o hi=>Nat.lt_of_lt_of_le (hH.inn b' o hi) hK.size,hH.glob.mono hK.stays⟩
   ·rw [hQ] at hv
    simp only [V.rep] at hv
    exact⟨by rw [he,hv],keeps_grow hk⟩
  have hcon:=(AnyQ.slices_SortFunc L k aE zE enc henc (fun i v hv=>one_cell' (hone i v hv)) _ hO' g #[] b 0 cap (fins l.length).toArray w eg hCL hHo hblk (by simpa [fins_len] using hsz))
  rw [show (fins l.length).toArray.size=l.length by simp [fins_len]] at hcon
  refine hcon.mono fun e w' ⟨he,d',m,os,hp,hs,hw⟩=>?_
  subst hw
  have hK:=sw_keeps enc k w b m d' os (I:=I) (fun b'=>b' < w.heap.size∧b' ∉ ([(b,B.c ((l.map c).flatten++rest))]:List (Nat × B)).map (·.1)) (fun b' hb'=>⟨by simpa using hb'.2,hb'.1⟩) q4 hH.inn (fun x e=>by rw [q1] at e;cases e)
  have hds:d'.size=l.length:=by rw [hp.1];simp [fins_len]
  have hpl:d'.toList.Perm (fins l.length):=by
   have:=hp.2.2
   rw [Array.extract_eq_self_of_le (by rw [hds];exact Nat.le_refl _),Array.extract_eq_self_of_le (by simp [fins_len])] at this
   simpa using this
  have hF:(flatK enc k d').toList=d'.toList.flatMap enc:=flatK_list enc henc d'
  have hFs:(flatK enc k d').size=l.length * k:=by rw [size_flatK,hds]
  have harr:=putCells_list (flatK enc k d') arr (by rw [hFs,hal];exact Nat.le_add_right _ _)
  rw [hF,hFs] at harr
  refine⟨.tuple #[],.tup [],[(b,.c (((d'.toList.map fun i=>l[i]).map c).flatten++rest))],[],I,he,by simp only [V.rep];exact⟨#[],rfl,by simp [V.reps]⟩,hK,⟨fun p hp'=>?_,by simp,by simp [blks],fun b' o hi=>Nat.lt_of_lt_of_le (hH.inn b' o hi) hK.size,hH.glob.mono hK.stays⟩,fun b' hb' h=>h.2 (by simpa [blks] using hb'),rfl,rfl,_,?_,?_,rfl⟩
  ·rw [List.mem_singleton.1 hp']
   refine⟨_,te,sw_heap enc k w b m d' os q1,fun x hx=>?_,?_,q4⟩
   ·rw [harr] at hx
    rcases List.mem_append.1 hx with hx | hx
    ·obtain⟨i,_,hx⟩:=List.mem_flatMap.1 hx
     exact hone i x hx
    ·exact q2 x (List.mem_of_mem_drop hx)
   ·rw [harr]
    refine V.reps_mono hK.stays _ _ (reps_append ?_ ?_)
    ·generalize d'.toList=ds
     induction ds with
     | nil=>simp [V.reps]
     | cons i ds ih =>
      simp only [List.map_cons,List.flatten_cons,List.flatMap_cons]
      exact reps_append (hrep i) ih
    ·have:=reps_drop (l.length * k) q3
     rwa [List.drop_left' (hfl l)] at this
  ·have:=hpl.map fun i=>l[i]
   rwa [show (fins l.length).map (fun i=>l[i])=l from fin_get l] at this
  ·rw [List.pairwise_map,List.pairwise_iff_getElem]
   intro i j hi hj hij
   have hj':j < d'.size:=by simpa using hj
   have:=hs i j (Nat.zero_le _) hij (by rw [← hds];exact hj')
   rw [getElem!_pos d' j hj',getElem!_pos d' i (by omega)] at this
   simpa [ltOf] using this
theorem Ok.sortNil {P:Program} {ρ:Ren} (L:SlLaysF0.n6 P ρ) (cap:Nat) (fv:Value):OkP P (ρ.f 6) [.lit (.slice none 0 cap),.lit fv] (.tup []):=by
 intro w I xs hr hH
 obtain rfl:xs=[.slice none 0 cap,fv]:=by
  match xs,hr with
  | [x,y],hr=>simp only [V.reps,V.rep,and_true] at hr;rw [hr.1,hr.2]
  | [],hr=>simp [V.reps] at hr
  | [_],hr=>simp [V.reps] at hr
  | _::_::_::_,hr=>simp [V.reps] at hr
 refine(AnyF.slices_SortFunc_none L none cap fv w).mono fun e w' ⟨he,hw⟩=>?_
 subst hw
 exact⟨_,.tup [],[],[],I,he,by simp only [V.rep];exact⟨#[],rfl,by simp [V.reps]⟩,Keeps.refl _ _ _,hH,by simp [blks],rfl,rfl,rfl⟩
end Go.VL
