/- Merged out of my text VD. -/
import Derived.Test.YtopfanlkbepemaaGreatKVC
namespace Go.VL
open Go.RowKit
def copyK (P:Program) (S:St) (d:Option Nat) (t tx:TypeId) (s x:V) (K:St→Prop):Prop :=
 match P.underlying t with
 | some (.slice e)=>match tsz P e with
  | some k=>srcK P S tx k x fun m fs =>
   match s with
   | .lit (.slice none 0 0)=>K (S.put d (.lit (.int .i64 0)))
   | .lit (.slice (some ⟨b,o,none⟩) n _)=>match getB S.boxes b with
    | some cs=>o+n * k≤cs.length∧K ((S.setBoxes (setB S.boxes b (cs.take o++fs.take (min m n * k)++cs.drop (o+min m n * k)))).put d (.lit (.int .i64 (min m n:Nat))))
    | none=>False
   | _=>False
  | none=>False
 | _=>False
theorem step_copy {C S} {o:Oper} {c:Call} {s x:Operand} {t tx:TypeId} {K:St→Prop} (ho:o.op=.call c) (hc:c.callee=.builtin .copy) (ha:c.args.toList=[s,x]) (ht:c.argTypes.toList=[t,tx]) (hd:dstOk C.N o=true)
  (h:copyK C.P S o.dst t tx (VL.ev S.σ s) (VL.ev S.σ x) K):Step C S o K:=by
 have ha':c.args=#[s,x]:=by rw [← Array.toArray_toList (xs:=c.args),ha]
 have ht':c.argTypes=#[t,tx]:=by rw [← Array.toArray_toList (xs:=c.argTypes),ht]
 unfold copyK at h
 split at h
 ·rename_i e hu
  split at h
  ·rename_i k hk
   obtain⟨m,fs,h,src⟩:=srcK_spec h
   refine Step.of_value fun a w I hΓ=>?_
   obtain⟨news,n1,n2,hsrc,hpre⟩:=src.get w I _ hΓ.2 (hΓ.ev x)
   have runs:∀ y w',(Builtin.copy_ #[t,tx] o.type #[a.eval s,a.eval x]).run C.P w=.ok y w'→(execOp a.eval o).run C.P w=.ok (.value y) w':=fun y w' hr=>by
    simp only [execOp,ho,resolve,hc,ha',ht']
    simp [invoke,builtin,hr]
   split at h
   ·rename_i hs
    have rs:=hΓ.ev s
    rw [hs] at rs
    simp only [V.rep] at rs
    refine⟨goInt (0:Nat),w,_,I,runs _ w ?_,⟨hΓ.1.put o.dst (dstOk_spec hd) (v:=.lit (.int .i64 0)) (by simp [V.rep,goInt]),hΓ.2.put _ _⟩,h⟩
    rw [rs]
    have:=hpre 0 (Nat.zero_le _)
    simp only [Nat.zero_mul,List.take_zero] at this
    simp [Builtin.copy_,run_underlying hu,hsrc.len,run_tsz hk,this]
   ·rename_i b off n cc hs
    split at h
    ·rename_i cs hb
     obtain⟨hle,h⟩:=h
     have rs:=hΓ.ev s
     rw [hs] at rs
     simp only [V.rep] at rs
     have hm:=getB_mem hb
     obtain⟨arr,te,q1,q2,q3,q4⟩:=hΓ.2.heap.bx _ hm
     have hla:arr.size=cs.length:=by have:=reps_length q3;simpa using this
     have hr1:min m n≤m:=Nat.min_le_left _ _
     have hr2:min m n≤n:=Nat.min_le_right _ _
     have hrk:min m n * k≤n * k:=Nat.mul_le_mul_right _ hr2
     have hrm:min m n * k≤m * k:=Nat.mul_le_mul_right _ hr1
     have hnl:=hsrc.newsLen
     have hlen:(news.take (min m n * k)).length=min m n * k:=by simp;omega
     have hst:=run_storeCells_at (P:=C.P) b off te (news.take (min m n * k)) 0 arr w q1 (by rw [hlen];omega) (fun v hv=>one_cell' (n2 v (List.mem_of_mem_take hv)))
     simp only [Nat.add_zero,hlen] at hst
     obtain⟨hW,hS⟩:=hΓ.2.write (ds:=cs.take off++fs.take (min m n * k)++cs.drop (off+min m n * k)) (arr':=(arr.toList.take off++news.take (min m n * k)++arr.toList.drop (off+min m n * k)).toArray) (List.mem_map.2 ⟨_,hm,rfl⟩) q1
      (fun u hu'=>by
       simp only [List.mem_append] at hu'
       rcases hu' with(hu' | hu') | hu'
       ·exact q2 u (List.mem_of_mem_take hu')
       ·exact n2 u (List.mem_of_mem_take hu')
       ·exact q2 u (List.mem_of_mem_drop hu'))
      (reps_append (reps_append (reps_take _ q3) (reps_take _ n1)) (reps_drop _ q3))
     refine⟨goInt ((min m n:Nat):Int),_,_,I,runs _ _ ?_,⟨(hΓ.1.mono hS).put o.dst (dstOk_spec hd) (by simp only [V.rep,goInt]),hW.put _ _⟩,h⟩
     rw [rs]
     have hpr:=hpre _ hr1
     have hmin:Nat.min m n=min m n:=rfl
     simp only [Builtin.copy_,List.getElem?_toArray,List.getElem?_cons_zero,List.getElem?_cons_succ,Sem.run_bind,run_underlying hu,Result.andThen_ok,hsrc.len,run_tsz hk,hmin,hpr,hst,Sem.run_pure]
    ·exact h.elim
   ·exact h.elim
  ·exact h.elim
 ·exact h.elim
def makeSliceK (P:Program) (S:St) (d:Option Nat) (t:TypeId) (l c:V) (K:St→Prop):Prop :=
 match P.underlying t,l,c with
 | some (.slice e),.lit (.int _ l),.lit (.int _ c)=>match tsz P e,tby P e,tzr P e with
  | some k,some by_,some z=>z.length=k∧0 < k∧okC (z.map .lit)=true∧0≤l∧l≤c∧c.toNat * by_≤140737488355328∧c≤140737488355328 ∧
    ∀ b,b ∉ blks S.boxes S.rows→K ((S.addBox b ((List.replicate c.toNat (z.map V.lit)).flatten)).put d (.lit (.slice (some ⟨b,0,none⟩) l.toNat c.toNat)))
  | _,_,_=>False
 | _,_,_=>False
theorem made_cells (z:Array Value):∀ n:Nat,(madeCells z (n * z.size)).toList=(List.replicate n z.toList).flatten:=by
 intro n
 apply List.ext_getElem?
 intro i
 have hl:((List.replicate n z.toList).flatten).length=n * z.size:=by simp
 by_cases hi:i < n * z.size
 ·have h1:(madeCells z (n * z.size)).toList[i]? = some (z[i % z.size]!):=by
   simp [madeCells,hi]
  rw [h1]
  have:∀ (n i:Nat),i < n * z.size→((List.replicate n z.toList).flatten)[i]? = some (z[i % z.size]!):=by
   intro n
   induction n with
   | zero=>intro i hi;omega
   | succ n ih =>
    intro i hi
    rw [List.replicate_succ,List.flatten_cons,List.getElem?_append]
    split
    ·rename_i h
     have h':i < z.size:=by simpa using h
     rw [Nat.mod_eq_of_lt h',getElem!_pos z i h']
     simp [h']
    ·rename_i h
     have h':z.size≤i:=by simpa using h
     have:=ih (i - z.size) (by rw [Nat.add_mul] at hi;omega)
     simp only [Array.length_toList]
     rw [this,← Nat.mod_eq_sub_mod h']
  exact(this n i hi).symm
 ·rw [List.getElem?_eq_none (by simp [madeCells];omega),List.getElem?_eq_none (by omega)]
theorem reps_zeros {w I} (z:List Value):∀ n:Nat,V.reps w I ((List.replicate n (z.map V.lit)).flatten) ((List.replicate n z).flatten)
 | 0=>by simp [V.reps]
 | n+1=>by
  rw [List.replicate_succ,List.replicate_succ,List.flatten_cons,List.flatten_cons]
  exact reps_append (reps_lits z) (reps_zeros z n)
theorem step_makeSlice {C S} {o:Oper} {t:TypeId} {l c:Operand} {K:St→Prop} (ho:o.op=.makeSlice t l c) (hd:dstOk C.N o=true)
  (h:makeSliceK C.P S o.dst t (VL.ev S.σ l) (VL.ev S.σ c) K):Step C S o K:=by
 unfold makeSliceK at h
 split at h
 ·rename_i e kl lv kc cv hu hl hc
  split at h
  ·rename_i k by_ z hk hby hz
   obtain⟨hzl,hk0,hoz,h0,hlc,hb,hcm,hK⟩:=h
   obtain⟨i,hi,rfl,rfl,zv,hiz,rfl⟩:=infos hk hby hz
   have hzs:zv.cells.size=i.size:=by simpa using hzl
   refine Step.of_value fun a w I hΓ=>?_
   have rl:=hΓ.ev l
   have rc:=hΓ.ev c
   rw [hl] at rl
   rw [hc] at rc
   simp only [V.rep] at rl rc
   have hcb:(i.bytes:Int) * cv≤281474976710656:=by
    have:(i.bytes:Int) * cv=((cv.toNat * i.bytes:Nat):Int):=by
     rw [Int.natCast_mul,Int.toNat_of_nonneg (by omega),Int.mul_comm]
    rw [this];omega
   have hrun:=run_make (P:=C.P) w t e i zv hu hi hiz kl kc lv cv h0 hlc hcb (by omega)
   have hcells:(madeCells zv.cells (cv.toNat * i.size)).toList=(List.replicate cv.toNat zv.cells.toList).flatten:=by
    have:=made_cells zv.cells cv.toNat
    rwa [hzs] at this
   refine⟨_,_,_,I,?_,hΓ.boxedS o.dst (dstOk_spec hd) (madeCells zv.cells (cv.toNat * i.size)) e ((List.replicate cv.toNat (zv.cells.toList.map V.lit)).flatten) lv.toNat cv.toNat ?_ ?_,hK _ hΓ.2.fresh⟩
   ·simp only [execOp,ho,rl,rc]
    rw [Sem.run_bind,hrun]
    rfl
   ·intro u hu'
    rw [hcells] at hu'
    obtain⟨l',hl',hu''⟩:=List.mem_flatten.1 hu'
    rw [List.eq_of_mem_replicate hl'] at hu''
    exact one_zero hoz u hu''
   ·rw [hcells];exact reps_zeros _ _
  ·exact h.elim
 ·exact h.elim
def appZK (P:Program) (S:St) (d:Option Nat) (t tx:TypeId) (s x:V) (K:St→Prop):Prop :=
 match P.underlying t,P.underlying tx,s,x with
 | some (.slice e),some (.int _),.lit (.slice (some ⟨b,o,none⟩) n c),.lit (.int _ j)=>match tsz P e,tby P e,tzr P e,getB S.boxes b with
  | some k,some by_,some z,some cs=>0 < by_∧0 < k∧z.length=k∧okC (z.map .lit)=true∧0 < j∧o+n * k≤cs.length∧c < n+j.toNat∧(n+j.toNat) * by_≤140737488355328 ∧
    ∀ b' c',b' ∉ blks S.boxes S.rows→n+j.toNat≤c'→K ((S.addBox b' ((cs.drop o).take (n * k)++anys ((c' - n) * k))).put d (.lit (.slice (some ⟨b',0,none⟩) (n+j.toNat) c')))
  | _,_,_,_=>False
 | _,_,_,_=>False
theorem run_append_zeros {P:Program} (w:World) (t tx ty e:TypeId) (kx kv:IntKind) (i:TypeInfo) (z:Value) (ht:P.underlying t=some (.slice e)) (hx:P.underlying tx=some (.int kx)) (hi:P.info? e=some i) (hz:i.zero=some z) (base:Option Addr) (sLen sCap:Nat) (olds:List Value)
  (hold:(Builtin.firstCells i.size sLen (.slice base sLen sCap)).run P w.drew=.ok olds.toArray w.drew) (j:Int) (h0:0≤j) (hj:j * i.bytes≤281474976710656) (hj63:j≤9223372036854775807) (hk0:0 < i.size) (hj0:0 < j.toNat)
  (hg:sCap < sLen+j.toNat) (h63:((sLen+j.toNat:Nat):Int)≤9223372036854775807) (hfit:Builtin.nextslicecap (sLen+j.toNat) sCap * i.bytes≤281474976710656) :
  (Builtin.append_ #[t,tx] ty #[.slice base sLen sCap,.int kv j]).run P w =
   .ok (.slice (some ⟨w.heap.size,0,none⟩) (sLen+j.toNat) (grownCap w (sLen+j.toNat) sCap e))
    (w.drew.alloc (.cells ((olds++(Builtin.zeroCells z.cells j.toNat).toList).toArray++Builtin.zeroCells z.cells (grownCap w (sLen+j.toNat) sCap e - (sLen+j.toNat))) e)):=by
 have hn:¬ (sLen+j.toNat≤sCap):=by omega
 have wl:IntKind.i64.wrap j=j:=IntWalk.i64_in j ⟨by omega,hj63⟩
 have n1:¬ j < 0:=by omega
 have n2:¬ (281474976710656 < j * (i.bytes:Int)):=by omega
 have h63':¬ (9223372036854775807 < ((sLen:Int)+max j 0)):=by omega
 have h48':¬ (281474976710656 < Builtin.nextslicecap (sLen+j.toNat) sCap * i.bytes):=by omega
 have hnz:¬ (j.toNat * i.size=0):=by
  have:=Nat.mul_pos hj0 hk0
  omega
 simp [Builtin.append_,run_underlying ht,run_underlying hx,sizeOf,typeInfo,zeroValue,hi,hz,asInt,asIntOf,wl,n1,n2,hn,h63',h48',hnz,Question.forced,hold,newRow,grownCap]
 congr 2
 apply Array.ext'
 simp [List.append_assoc]
theorem step_appZ {C S} {o:Oper} {c:Call} {s x:Operand} {t tx:TypeId} {K:St→Prop} (ho:o.op=.call c) (hc:c.callee=.builtin .append) (ha:c.args.toList=[s,x]) (ht:c.argTypes.toList=[t,tx]) (hd:dstOk C.N o=true)
  (h:appZK C.P S o.dst t tx (VL.ev S.σ s) (VL.ev S.σ x) K):Step C S o K:=by
 have ha':c.args=#[s,x]:=by rw [← Array.toArray_toList (xs:=c.args),ha]
 have ht':c.argTypes=#[t,tx]:=by rw [← Array.toArray_toList (xs:=c.argTypes),ht]
 unfold appZK at h
 split at h
 ·rename_i e kx b off n cc kv j hu hx hs hj
  split at h
  ·rename_i k by_ z cs hk hby hz hb
   obtain⟨hb0,hk0,hzl,hoz,hjp,hle,hg,hbd,hK⟩:=h
   obtain⟨i,hi,rfl,rfl,zv,hiz,rfl⟩:=infos hk hby hz
   have hzs:zv.cells.size=i.size:=by simpa using hzl
   have hone:=one_zero hoz
   refine Step.of_value fun a w I hΓ=>?_
   have rs:=hΓ.ev s
   have rx:=hΓ.ev x
   rw [hs] at rs
   rw [hj] at rx
   simp only [V.rep] at rs rx
   obtain⟨arr,te,q1,q2,q3,q4⟩:=hΓ.2.heap.bx _ (getB_mem hb)
   have hla:arr.size=cs.length:=by have:=reps_length q3;simpa using this
   have hdr:=hΓ.drew
   have hold:(Builtin.firstCells i.size n (.slice (some ⟨b,off,none⟩) n cc)).run C.P w.drew=.ok ((arr.toList.drop off).take (n * i.size)).toArray w.drew:=by
    refine run_firstCells_some w.drew i.size n ⟨b,off,none⟩ n cc _ (by simp;omega) fun j u hj=>?_
    rw [Addr.add_lit]
    rw [List.getElem?_take] at hj
    split at hj
    ·rw [List.getElem?_drop] at hj
     have:w.drew.heap[b]? = some (.cells arr te (0,0)):=q1
     simp only [World.cell?, this,Option.isSome_none,Bool.false_eq_true,if_false]
     simpa using hj
    ·cases hj
   have hmx:n+j.toNat≤140737488355328:=Nat.le_trans (Nat.le_mul_of_pos_right _ hb0) hbd
   have hj0:0 < j.toNat:=by omega
   have h0:0≤j:=by omega
   ·have hjb:j * i.bytes≤281474976710656:=by
     have h1:j.toNat * i.bytes≤(n+j.toNat) * i.bytes:=Nat.mul_le_mul_right _ (by omega)
     have h2:j * (i.bytes:Int)=((j.toNat * i.bytes:Nat):Int):=by rw [Int.natCast_mul,Int.toNat_of_nonneg h0]
     rw [h2];omega
    have hrun:=run_append_zeros (P:=C.P) w t tx o.type e kx kv i zv hu hx hi hiz (some ⟨b,off,none⟩) n cc _ hold j h0 hjb (by omega) hk0 hj0 hg (by omega) (growslice_fits (by omega) hbd)
    refine⟨.slice (some ⟨w.heap.size,0,none⟩) (n+j.toNat) (grownCap w (n+j.toNat) cc e),w.drew.alloc (.cells (((arr.toList.drop off).take (n * i.size)++(Builtin.zeroCells zv.cells j.toNat).toList).toArray++Builtin.zeroCells zv.cells (grownCap w (n+j.toNat) cc e - (n+j.toNat))) e),
     _,I,?_,?_,hK _ (grownCap w (n+j.toNat) cc e) (by simpa using hdr.2.fresh) (grownCap_ge w (n+j.toNat) cc e)⟩
    ·simp only [execOp,ho,resolve,hc,ha',ht']
     simp [invoke,builtin,rs,rx,hrun]
    ·have:=hdr.boxedS o.dst (dstOk_spec hd) (((arr.toList.drop off).take (n * i.size)++(Builtin.zeroCells zv.cells j.toNat).toList).toArray++Builtin.zeroCells zv.cells (grownCap w (n+j.toNat) cc e - (n+j.toNat))) e
      ((cs.drop off).take (n * i.size)++anys ((grownCap w (n+j.toNat) cc e - n) * i.size)) (n+j.toNat) (grownCap w (n+j.toNat) cc e)
      (fun u hu'=>by
       simp only [Array.toList_append,List.mem_append] at hu'
       rcases hu' with(hu' | hu') | hu'
       ·exact q2 u (List.mem_of_mem_drop (List.mem_of_mem_take hu'))
       ·exact hone u (mem_zeroCells hu')
       ·exact hone u (mem_zeroCells hu'))
      (by
       have hst:=(Keeps.drew (fun _=>True) w I).stays
       simp only [Array.toList_append,List.append_assoc]
       refine reps_append (V.reps_mono hst _ _ (reps_take _ (reps_drop _ q3))) (reps_anys ?_)
       have h1:=size_zc zv.cells j.toNat
       have h2:=size_zc zv.cells (grownCap w (n+j.toNat) cc e - (n+j.toNat))
       have h3:=grownCap_ge w (n+j.toNat) cc e
       rw [hzs] at h1 h2
       simp only [List.length_append,Array.length_toList,h1,h2]
       rw [← Nat.add_mul]
       congr 1
       omega)
     simpa using this
  ·exact h.elim
 ·exact h.elim
end Go.VL
