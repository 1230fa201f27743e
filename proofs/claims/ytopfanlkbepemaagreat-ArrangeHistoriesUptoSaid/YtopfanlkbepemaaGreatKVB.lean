/- Merged out of my text VB. -/
import Derived.Test.YtopfanlkbepemaaGreatKVA
import Derived.Deep.AppendSrc
import Derived.Laws.MakeOwn
namespace Go.VL
open Go.RowKit
def St.setBoxes (S:St) (bs:List (Nat × B)):St:={ S with boxes:=bs }
def St.setRows (S:St) (rs:List Row):St:={ S with rows:=rs }
def bytesV (s:ByteArray):List V:=s.data.toList.map fun b=>.lit (.int .u8 b.toNat)
def srcK (P:Program) (S:St) (tx:TypeId) (k:Nat) (x:V) (K:Nat→List V→Prop):Prop :=
 match P.underlying tx,x with
 | some (.slice _),.list _ k' es=>k'=k∧K es.length es.flatten
 | some (.slice _),.lit (.slice none 0 0)=>K 0 []
 | some (.slice _),.lit (.slice (some ⟨b,o,none⟩) n _)=>match getB S.boxes b with
  | some cs=>o+n * k≤cs.length∧K n ((cs.drop o).take (n * k))
  | none=>False
 | some .string,.lit (.string s)=>k=1∧K s.size (bytesV s)
 | _,_=>False
structure SrcOk (C:Ctx) (S:St) (tx:TypeId) (k:Nat) (x:V) (n:Nat) (fs:List V):Prop where
 get:∀ w I xv,ΓW C S w I→V.rep w I x xv→∃ news,V.reps w I fs news∧(∀ u ∈ news,one u)∧Src C.P k tx xv n news w∧∀ r,r≤n→(Builtin.firstCells k r xv).run C.P w=.ok (news.take (r * k)).toArray w
theorem reps_bytes {w I} (s:ByteArray):V.reps w I (bytesV s) (byteCells s):=by
 unfold bytesV byteCells
 generalize s.data.toList=l
 induction l with
 | nil=>simp [V.reps]
 | cons b r ih=>simp only [List.map_cons,V.reps,V.rep];exact⟨trivial,ih⟩
theorem srcK_spec {C:Ctx} {S:St} {tx:TypeId} {k:Nat} {x:V} {K:Nat→List V→Prop} (h:srcK C.P S tx k x K):∃ n fs,K n fs∧SrcOk C S tx k x n fs:=by
 unfold srcK at h
 split at h
 ·rename_i e own k' es hu
  obtain⟨rfl,hK⟩:=h
  refine⟨_,_,hK,⟨fun w I xv hW hr=>?_⟩⟩
  simp only [V.rep] at hr
  obtain⟨_,a,c,rfl,hc,hl⟩:=hr
  rcases hl with rfl | ⟨b,o,rfl,hl⟩
  ·refine⟨[],by simp [V.reps],by simp,?_,fun r hr=>?_⟩
   ·cases a with
    | none=>simpa using Src.ofNil (P:=C.P) w (size:=k') hu c
    | some a=>simpa using Src.ofSlice (P:=C.P) w (size:=k') hu a 0 c [] (by simp) (by simp) (by simp)
   ·obtain rfl:r=0:=by simpa using hr
    cases a with
    | none=>simpa using run_firstCells_none (P:=C.P) w k' 0 0 c
    | some a=>simpa using run_firstCells_some (P:=C.P) w k' 0 a 0 c [] (by simp) (by simp)
  ·obtain⟨q,news,r1,r2,r3⟩:=lies_vals hl
   have hlen:news.length=es.length * k':=by rw [reps_length r1,flatten_len q]
   refine⟨news,r1,r2,Src.ofSlice (P:=C.P) w hu ⟨b,o,none⟩ es.length c news hlen (fun j u hj=>by rw [Addr.add_lit];exact(r3 j u hj).1) (fun u hu'=>one_cell' (r2 u hu')),fun r hr=>?_⟩
   have hrk:r * k'≤es.length * k':=Nat.mul_le_mul_right _ hr
   refine run_firstCells_some (P:=C.P) w k' r ⟨b,o,none⟩ es.length c _ (by simp;omega) fun j u hj=>?_
   rw [Addr.add_lit]
   rw [List.getElem?_take] at hj
   split at hj
   ·exact(r3 j u hj).1
   ·cases hj
 ·rename_i e hu
  refine⟨0,[],h,⟨fun w I xv hW hr=>?_⟩⟩
  simp only [V.rep] at hr
  subst hr
  exact⟨[],by simp [V.reps],by simp,Src.ofNil (P:=C.P) w (size:=k) hu 0,fun r hr=>by
   obtain rfl:r=0:=by omega
   simpa using run_firstCells_none (P:=C.P) w k 0 0 0⟩
 ·rename_i e b o n c hu
  split at h
  ·rename_i cs hb
   obtain⟨hle,hK⟩:=h
   refine⟨n,_,hK,⟨fun w I xv hW hr=>?_⟩⟩
   simp only [V.rep] at hr
   subst hr
   obtain⟨arr,te,q1,q2,q3,q4⟩:=hW.heap.bx _ (getB_mem hb)
   have hla:arr.size=cs.length:=by have:=reps_length q3;simpa using this
   have cell:∀ m j u,((arr.toList.drop o).take m)[j]? = some u→w.cell? ((⟨b,o,none⟩:Addr).add j)=some u:=fun m j u hj=>by
    rw [Addr.add_lit]
    rw [List.getElem?_take] at hj
    split at hj
    ·rw [List.getElem?_drop] at hj
     simp only [World.cell?, q1,Option.isSome_none,Bool.false_eq_true,if_false]
     simpa using hj
    ·cases hj
   refine⟨(arr.toList.drop o).take (n * k),reps_take _ (reps_drop _ q3),fun u hu'=>q2 u (List.mem_of_mem_drop (List.mem_of_mem_take hu')),?_,fun r hr=>?_⟩
   ·exact Src.ofSlice (P:=C.P) w hu ⟨b,o,none⟩ n c _ (by simp;omega) (cell _) fun u hu'=>one_cell' (q2 u (List.mem_of_mem_drop (List.mem_of_mem_take hu')))
   ·have hrk:r * k≤n * k:=Nat.mul_le_mul_right _ hr
    rw [List.take_take,Nat.min_eq_left hrk]
    exact run_firstCells_some (P:=C.P) w k r ⟨b,o,none⟩ n c _ (by simp;omega) (cell _)
  ·exact h.elim
 ·rename_i s hu
  obtain⟨rfl,hK⟩:=h
  refine⟨_,_,hK,⟨fun w I xv hW hr=>?_⟩⟩
  simp only [V.rep] at hr
  subst hr
  refine⟨byteCells s,reps_bytes s,fun u hu'=>?_,Src.ofString (P:=C.P) w hu s,fun r hr=>?_⟩
  ·obtain⟨b,_,rfl⟩:=List.mem_map.1 hu'
   trivial
  ·simp only [Builtin.firstCells,Sem.run_pure,Nat.mul_one]
   congr 1
   apply Array.ext'
   simp [byteCells,ByteArray.data_extract]
 ·exact h.elim
theorem run_append_room_own {P:Program} (w:World) (t tx ty e:TypeId) (i:TypeInfo) (ht:P.underlying t=some (.slice e)) (hi:P.info? e=some i) (b off sLen sCap:Nat) (x:Value) (n:Nat) (news:List Value) (hs:Src P i.size tx x n news w)
  (hroom:sLen+n≤sCap) (arr:Array Value) (te:TypeId) (hb:w.heap[b]? = some (.cells arr te (0,0))) (hfit:off+sLen * i.size+news.length≤arr.size) :
  (Builtin.append_ #[t,tx] ty #[.slice (some ⟨b,off,none⟩) sLen sCap,x]).run P w=.ok (.slice (some ⟨b,off,none⟩) (sLen+n) sCap)
   (w.setRow b (arr.toList.take (off+sLen * i.size)++news++arr.toList.drop (off+sLen * i.size+news.length)).toArray):=by
 have hst:=run_storeCells_at (P:=P) b (off+sLen * i.size) te news 0 arr w hb (by simpa using hfit) hs.one
 simp only [Nat.add_zero] at hst
 rcases hs.kind with⟨e',hk⟩ | hk <;> simp [Builtin.append_,run_underlying ht,run_underlying hk,sizeOf,typeInfo,hi,hs.len,hroom,hs.cells,Addr.add_lit,hst]
def anys (n:Nat):List V:=List.replicate n .any
theorem reps_anys {w I}:∀ {n:Nat} {xs:List Value},xs.length=n→V.reps w I (anys n) xs
 | 0,[],_=>by simp [anys,V.reps]
 | n+1,x::xs,h=>by
  have:=reps_anys (w:=w) (I:=I) (n:=n) (xs:=xs) (by simpa using h)
  simp only [anys,List.replicate_succ,V.reps,V.rep] at this ⊢
  exact⟨trivial,this⟩
 | 0,_::_,h=>by simp at h
 | _+1,[],h=>by simp at h
def onIf (p:Prop) [Decidable p] (A B:Prop):Prop:=if p then A else B
def appMD (S:St) (d:Option Nat) (k by_:Nat) (s:V) (m:Nat) (fs:List V) (K:St→Prop):Prop :=
 match s with
 | .lit (.slice none 0 0)=>onIf (m=0) (K (S.put d s)) (m * by_≤140737488355328∧∀ b c,b ∉ blks S.boxes S.rows→m≤c→K ((S.addBox b (fs++anys ((c - m) * k))).put d (.lit (.slice (some ⟨b,0,none⟩) m c))))
 | .lit (.slice (some ⟨b,o,none⟩) n c)=>match getB S.boxes b with
  | some cs=>o+c * k≤cs.length∧n≤c∧onIf (n+m≤c) (K ((S.setBoxes (setB S.boxes b (cs.take (o+n * k)++fs++cs.drop (o+n * k+m * k)))).put d (.lit (.slice (some ⟨b,o,none⟩) (n+m) c))))
    ((n+m) * by_≤140737488355328∧∀ b' c',b' ∉ blks S.boxes S.rows→n+m≤c'→K ((S.addBox b' ((cs.drop o).take (n * k)++fs++anys ((c' - (n+m)) * k))).put d (.lit (.slice (some ⟨b',0,none⟩) (n+m) c'))))
  | none=>False
 | _=>False
def appMK (P:Program) (S:St) (d:Option Nat) (t tx:TypeId) (s x:V) (K:St→Prop):Prop :=
 match P.underlying t with
 | some (.slice e)=>match tsz P e,tby P e,tzr P e with
  | some k,some by_,some z=>0 < by_∧z.length=k∧okC (z.map .lit)=true∧srcK P S tx k x fun m fs=>appMD S d k by_ s m fs K
  | _,_,_=>False
 | _=>False
theorem infos {P:Program} {e:TypeId} {k by_:Nat} {z:List Value} (hk:tsz P e=some k) (hby:tby P e=some by_) (hz:tzr P e=some z):∃ i,P.info? e=some i∧i.size=k∧i.bytes=by_∧∃ zv,i.zero=some zv∧zv.cells.toList=z:=by
 unfold tsz at hk;unfold tby at hby;unfold tzr at hz
 cases hinf:P.info? e with
 | none=>simp [hinf] at hk
 | some i =>
  cases hzz:i.zero with
  | none=>simp [hinf,hzz] at hz
  | some zv=>simp [hinf,hzz] at hk hby hz;exact⟨i,rfl,hk,hby,zv,hzz▸rfl,hz⟩
theorem one_zero {z:List Value} (h:okC (z.map .lit)=true):∀ x ∈ z,one x:=one_of_reps (w:=default) (I:=fun _ _=>False) (reps_lits z) (okC_spec h)
theorem mem_zeroCells {z:Array Value} {n:Nat} {x:Value} (hx:x ∈ (Builtin.zeroCells z n).toList):x ∈ z.toList:=by
 simp only [Builtin.zeroCells,Array.toList_map,Array.toList_range,List.mem_map,List.mem_range] at hx
 obtain⟨i,hi,rfl⟩:=hx
 have hp:0 < z.size:=by
  rcases Nat.eq_zero_or_pos z.size with h | h
  ·rw [h] at hi;simp at hi
  ·exact h
 have:i % z.size < z.size:=Nat.mod_lt _ hp
 rw [getElem!_pos z (i % z.size) this]
 simp
theorem Γ.boxedS {C S a w I} (h:Γ C S a w I) (d:Option Nat) (hd:∀ i,d=some i→i < C.N) (arr:Array Value) (e:TypeId) (cs:List V) (n c:Nat) (h1:∀ x ∈ arr.toList,one x) (h2:V.reps w I cs arr.toList) :
  Γ C ((S.addBox w.heap.size cs).put d (.lit (.slice (some ⟨w.heap.size,0,none⟩) n c))) (a.put d (.slice (some ⟨w.heap.size,0,none⟩) n c)) (w.alloc (.cells arr e)) I :=
 ⟨(h.1.mono (Keeps.new (.cells arr e) h.2.heap.inn).stays).put d hd (by simp only [V.rep]),(h.2.box arr e cs h1 h2).put _ _⟩
theorem Γ.drew {C S a w I} (h:Γ C S a w I):Γ C S a w.drew I :=
 ⟨h.1.mono (Keeps.drew (fun _=>True) w I).stays,h.2.quiet (fun _=>True) (fun _ _=>trivial) (Keeps.drew _ w I) h.2.heap.inn⟩
theorem step_appM {C S} {o:Oper} {c:Call} {s x:Operand} {t tx:TypeId} {K:St→Prop} (ho:o.op=.call c) (hc:c.callee=.builtin .append) (ha:c.args.toList=[s,x]) (ht:c.argTypes.toList=[t,tx]) (hd:dstOk C.N o=true)
  (h:appMK C.P S o.dst t tx (VL.ev S.σ s) (VL.ev S.σ x) K):Step C S o K:=by
 have ha':c.args=#[s,x]:=by rw [← Array.toArray_toList (xs:=c.args),ha]
 have ht':c.argTypes=#[t,tx]:=by rw [← Array.toArray_toList (xs:=c.argTypes),ht]
 unfold appMK at h
 split at h
 ·rename_i e hu
  split at h
  ·rename_i k by_ z hk hby hz
   obtain⟨hb0,hzl,hoz,h⟩:=h
   obtain⟨m,fs,h,src⟩:=srcK_spec h
   obtain⟨i,hi,rfl,rfl,zv,hiz,rfl⟩:=infos hk hby hz
   have hzs:zv.cells.size=i.size:=by simpa using hzl
   have hone:=one_zero hoz
   refine Step.of_value fun a w I hΓ=>?_
   obtain⟨news,n1,n2,hsrc,_⟩:=src.get w I _ hΓ.2 (hΓ.ev x)
   have hnl:=hsrc.newsLen
   have hfl:fs.length=m * i.size:=by rw [← hnl,reps_length n1]
   have runs:∀ y w',(Builtin.append_ #[t,tx] o.type #[a.eval s,a.eval x]).run C.P w=.ok y w'→(execOp a.eval o).run C.P w=.ok (.value y) w':=fun y w' hr=>by
    simp only [execOp,ho,resolve,hc,ha',ht']
    simp [invoke,builtin,hr]
   have grow:∀ (base:Option Addr) (n cc:Nat) (olds:List Value) (ovs:List V),a.eval s=.slice base n cc→(Builtin.firstCells i.size n (.slice base n cc)).run C.P w.drew=.ok olds.toArray w.drew→V.reps w I ovs olds→(∀ u ∈ olds,one u) →
     olds.length=n * i.size→cc < n+m→(n+m) * i.bytes≤140737488355328→(∀ b' c',b' ∉ blks S.boxes S.rows→n+m≤c'→K ((S.addBox b' (ovs++fs++anys ((c' - (n+m)) * i.size))).put o.dst (.lit (.slice (some ⟨b',0,none⟩) (n+m) c')))) →
     ∃ y w' S' I',(execOp a.eval o).run C.P w=.ok (.value y) w'∧Γ C S' (a.put o.dst y) w' I'∧K S':=by
    intro base n cc olds ovs hs hold hro hoo hol hg hbound hK
    have hmx:n+m≤140737488355328:=Nat.le_trans (Nat.le_mul_of_pos_right _ hb0) hbound
    have hrun:=run_append_grow_src (P:=C.P) w t tx o.type e i zv hu hi hiz base n cc olds hold (a.eval x) m news hsrc hg (by omega) (growslice_fits (by omega) hbound)
    rw [← hs] at hrun
    have hdr:=hΓ.drew
    refine⟨_,_,_,I,runs _ _ hrun,?_,hK _ (grownCap w (n+m) cc e) (by simpa using hdr.2.fresh) (grownCap_ge w (n+m) cc e)⟩
    have:=hdr.boxedS o.dst (dstOk_spec hd) ((olds++news).toArray++Builtin.zeroCells zv.cells (grownCap w (n+m) cc e - (n+m))) e (ovs++fs++anys ((grownCap w (n+m) cc e - (n+m)) * i.size)) (n+m) (grownCap w (n+m) cc e)
     (fun u hu'=>by
      simp only [Array.toList_append,List.mem_append] at hu'
      rcases hu' with(hu' | hu') | hu'
      ·exact hoo u hu'
      ·exact n2 u hu'
      ·exact hone u (mem_zeroCells hu'))
     (by
      have hst:=(Keeps.drew (fun _=>True) w I).stays
      simp only [Array.toList_append]
      refine reps_append (reps_append (V.reps_mono hst _ _ hro) (V.reps_mono hst _ _ n1)) (reps_anys ?_)
      have:=size_zc zv.cells (grownCap w (n+m) cc e - (n+m))
      rw [hzs] at this
      simpa using this)
    simpa using this
   unfold appMD at h
   split at h
   ·rename_i hs
    have rs:=hΓ.ev s
    rw [hs] at rs
    simp only [V.rep] at rs
    unfold onIf at h
    split at h
    ·rename_i hm
     subst hm
     have hn0:news=[]:=List.eq_nil_of_length_eq_zero (by rw [hnl];simp)
     subst hn0
     refine⟨_,w,_,I,runs (.slice none 0 0) w ?_,⟨hΓ.1.put o.dst (dstOk_spec hd) (v:=VL.ev S.σ s) (by rw [hs];simp only [V.rep]),hΓ.2.put _ _⟩,h⟩
     rw [rs]
     rcases hsrc.kind with⟨e',hk'⟩ | hk' <;> simp [Builtin.append_,run_underlying hu,run_underlying hk',sizeOf,typeInfo,hi,hsrc.len,hsrc.cells]
    ·rename_i hm
     obtain⟨hbd,hK⟩:=h
     have:=grow none 0 0 [] [] rs (run_firstCells_none w.drew i.size 0 0 0) (by simp [V.reps]) (by simp) (by simp) (by omega) (by simpa using hbd) (fun b' c' hb' hc'=>by simpa using hK b' c' hb' (by omega))
     exact this
   ·rename_i b off n cc hs
    split at h
    ·rename_i cs hb
     obtain⟨hle,hnc,h⟩:=h
     have rs:=hΓ.ev s
     rw [hs] at rs
     simp only [V.rep] at rs
     have hm:=getB_mem hb
     obtain⟨arr,te,q1,q2,q3,q4⟩:=hΓ.2.heap.bx _ hm
     have hla:arr.size=cs.length:=by have:=reps_length q3;simpa using this
     have hnk:n * i.size≤cc * i.size:=Nat.mul_le_mul_right _ hnc
     unfold onIf at h
     split at h
     ·rename_i hroom
      have hfit:off+n * i.size+news.length≤arr.size:=by
       have:(n+m) * i.size≤cc * i.size:=Nat.mul_le_mul_right _ hroom
       rw [Nat.add_mul] at this
       omega
      have hrun:=run_append_room_own (P:=C.P) w t tx o.type e i hu hi b off n cc (a.eval x) m news hsrc hroom arr te q1 hfit
      rw [← rs] at hrun
      obtain⟨hW,hS⟩:=hΓ.2.write (ds:=cs.take (off+n * i.size)++fs++cs.drop (off+n * i.size+m * i.size)) (arr':=(arr.toList.take (off+n * i.size)++news++arr.toList.drop (off+n * i.size+news.length)).toArray) (List.mem_map.2 ⟨_,hm,rfl⟩) q1
       (fun u hu'=>by
        simp only [List.mem_append] at hu'
        rcases hu' with(hu' | hu') | hu'
        ·exact q2 u (List.mem_of_mem_take hu')
        ·exact n2 u hu'
        ·exact q2 u (List.mem_of_mem_drop hu'))
       (by rw [hnl];exact reps_append (reps_append (reps_take _ q3) n1) (reps_drop _ q3))
      exact⟨_,_,_,I,runs _ _ hrun,⟨(hΓ.1.mono hS).put o.dst (dstOk_spec hd) (by simp only [V.rep]),hW.put _ _⟩,h⟩
     ·rename_i hroom
      obtain⟨hbd,hK⟩:=h
      refine grow (some ⟨b,off,none⟩) n cc ((arr.toList.drop off).take (n * i.size)) ((cs.drop off).take (n * i.size)) rs ?_ (reps_take _ (reps_drop _ q3)) (fun u hu'=>q2 u (List.mem_of_mem_drop (List.mem_of_mem_take hu'))) (by simp;omega) (by omega) hbd hK
      refine run_firstCells_some w.drew i.size n ⟨b,off,none⟩ n cc _ (by simp;omega) fun j u hj=>?_
      rw [Addr.add_lit]
      rw [List.getElem?_take] at hj
      split at hj
      ·rw [List.getElem?_drop] at hj
       have:w.drew.heap[b]? = some (.cells arr te (0,0)):=q1
       simp only [World.cell?, this,Option.isSome_none,Bool.false_eq_true,if_false]
       simpa using hj
      ·cases hj
    ·exact h.elim
   ·exact h.elim
  ·exact h.elim
 ·exact h.elim
end Go.VL
