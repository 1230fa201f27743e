/- Merged out of my text VP. -/
import Derived.Test.YtopfanlkbepemaaGreatKVD
namespace Go.VL
open Go.RowKit
theorem append_coreS {C S w I} (hW:ΓW C S w I) {t tx ty e:TypeId} {k by_:Nat} {z:List Value} (ht:C.P.underlying t=some (.slice e)) (hk:tsz C.P e=some k) (hby:tby C.P e=some by_) (hz:tzr C.P e=some z)
  (hby0:0 < by_) (hzl:z.length=k) {r:Row} {rs:List Row} (hrows:S.rows=r::rs) (hrk:r.k=k) (hre:r.e=e) {es fs:List (List V)} (hl:V.rep w I (.list (some r.x) k es) r.x)
  {x:Value} {news:List Value} (hfk:∀ e' ∈ fs,e'.length=k) (hn1:V.reps w I fs.flatten news) (hn2:∀ u ∈ news,one u) (hsrc:Src C.P k tx x fs.length news w) (hbound:(es.length+fs.length) * by_≤140737488355328) :
  ∃ y' w' I',(Builtin.append_ #[t,tx] ty #[r.x,x]).run C.P w=.ok y' w'∧ΓW C { S with rows:=⟨y',k,e⟩::rs } w' I'∧Stays w I w' I'∧V.rep w' I' (.list (some y') k (es++fs)) y':=by
 have hr:=hW.heap.rw r (hrows▸List.mem_cons_self)
 obtain⟨hk0,⟨e0,xs0,hlen0,hown⟩,hspare⟩:=hr
 rw [hrk] at hk0 hlen0 hown hspare
 have hl':=hl
 simp only [V.rep] at hl'
 obtain⟨_,a0,c0,hrx,hle0,hlies⟩:=hl'
 obtain⟨i,hi,hi1,hi2,zv,hi3,hi4⟩:∃ i,C.P.info? e=some i∧i.size=k∧i.bytes=by_∧∃ zv,i.zero=some zv∧zv.cells.toList=z:=by
  unfold tsz at hk;unfold tby at hby;unfold tzr at hz
  cases hinf:C.P.info? e with
  | none=>simp [hinf] at hk
  | some i =>
   cases hzz:i.zero with
   | none=>simp [hinf,hzz] at hz
   | some zv=>simp [hinf,hzz] at hk hby hz;exact⟨i,rfl,hk,hby,zv,hzz▸rfl,hz⟩
 by_cases hfs:fs=[]
 ·subst hfs
  have hn0:news=[]:=by
   cases news with
   | nil=>rfl
   | cons u v=>simp [V.reps] at hn1
  subst hn0
  refine⟨r.x,w,I,?_,?_,Stays.refl _ _,by simpa using hl⟩
  ·rw [hrx]
   have hc:=hsrc.cells
   have hn:=hsrc.len
   simp only [List.length_nil] at hc hn
   rcases hsrc.kind with⟨e',hk'⟩ | hk' <;> cases a0 <;> simp [Builtin.append_,run_underlying ht,run_underlying hk',sizeOf,typeInfo,hi,hi1,hn,hle0,hc,storeCells]
  ·have:({ S with rows:=⟨r.x,k,e⟩::rs }:St)=S:=by
    cases S with
    | mk σ boxes rows=>simp only at hrows;subst hrows;cases r;simp_all
   rw [this];exact hW
 have hm0:0 < fs.length:=by cases fs with | nil=>exact absurd rfl hfs | cons _ _=>simp
 have hnl:news.length=fs.length * k:=by rw [reps_length hn1,flatten_len hfk]
 have hzs:zv.cells.size=k:=by have:=congrArg List.length hi4;simpa [hzl] using this
 have hmx:es.length+fs.length≤140737488355328:=Nat.le_trans (Nat.le_mul_of_pos_right _ hby0) hbound
 have hmaxLen:es.length+fs.length≤maxLen:=by simp only [maxLen];omega
 have hfb:fs.length * by_≤140737488355328:=Nat.le_trans (Nat.mul_le_mul_right _ (Nat.le_add_left _ _)) hbound
 have hWd:ΓW C { S with rows:=rs } w.drew I:=by
  have:=(hW.drop hrows).quiet (fun _=>True) (fun _ _=>trivial) (Keeps.drew _ w I) hW.heap.inn
  exact this
 have grown:∀ (olds:List Value),olds.length=es.length * k→V.reps w I es.flatten olds→(∀ x ∈ olds,one x)→(∀ e' ∈ es,e'.length=k)→∀ (old:Nat) (ar:Array Value),ar.toList=olds++news++(Builtin.zeroCells zv.cells (grownCap w (es.length+fs.length) old e - (es.length+fs.length))).toList →
   ∃ I',ΓW C { S with rows:=⟨.slice (some ⟨w.heap.size,0,none⟩) (es.length+fs.length) (grownCap w (es.length+fs.length) old e),k,e⟩::rs } (w.drew.alloc (.cells ar e)) I'∧Stays w I (w.drew.alloc (.cells ar e)) I' ∧
    V.rep (w.drew.alloc (.cells ar e)) I' (.list (some (.slice (some ⟨w.heap.size,0,none⟩) (es.length+fs.length) (grownCap w (es.length+fs.length) old e))) k (es++fs)) (.slice (some ⟨w.heap.size,0,none⟩) (es.length+fs.length) (grownCap w (es.length+fs.length) old e)):=by
  intro olds h1 h2 h3 h4 old ar har
  have hge:=grownCap_ge w (es.length+fs.length) old e
  have hcm:grownCap w (es.length+fs.length) old e≤maxLen:=grownCap_le_maxLen w (es.length+fs.length) old e hmaxLen
  have hlen:(es++fs).length=es.length+fs.length:=by simp
  have hon:(olds++news).length=(es++fs).length * k:=by rw [List.length_append,h1,hnl,hlen,Nat.add_mul]
  have htk:ar.toList.take ((es++fs).length * k)=olds++news:=by rw [har,← hon,List.take_left'];rfl
  have hdrew:Stays w I w.drew I:=(Keeps.drew (fun _=>True) w I).stays
  obtain⟨I',g1,g2,g3⟩:=hWd.newRow ar e k hk0 (es++fs) (grownCap w (es.length+fs.length) old e) (by
    have:ar.toList.length=_:=congrArg List.length har
    simp only [List.length_append,Array.length_toList,size_zc,hzs,h1,hnl] at this
    rw [this,← Nat.add_mul,← Nat.add_mul]
    congr 1
    omega) (by rw [hlen];exact hge) hcm (fun e' he=>by
     rcases List.mem_append.1 he with he | he
     ·exact h4 e' he
     ·exact hfk e' he) (by
    rw [htk]
    intro x hx
    rcases List.mem_append.1 hx with hx | hx
    ·exact h3 x hx
    ·exact hn2 x hx) (by
    rw [htk,List.flatten_append]
    exact V.reps_mono hdrew _ _ (reps_append h2 hn1))
  rw [hlen] at g1 g3
  exact⟨I',g1,hdrew.trans g2,g3⟩
 rcases hown with⟨hnil,hn0⟩ | ⟨g,cap,cur,hblk,_,hg,hnc,hcm,hcs,htake⟩
 ·
  have hes:es=[]:=by
   rw [hnil] at hrx
   simp only [Value.slice.injEq] at hrx
   exact List.eq_nil_of_length_eq_zero hrx.2.1.symm
  subst hes
  have hrun:=run_append_grow_src (P:=C.P) w t tx ty e i zv ht hi hi3 none 0 0 [] (run_firstCells_none w.drew i.size 0 0 0) x fs.length news (hi1▸hsrc) (by omega) (by omega) (by rw [hi2];exact growslice_fits (by omega) (by simpa using hbound))
  obtain⟨I',g1,g2,g3⟩:=grown [] (by simp) (by simp [V.reps]) (by simp) (by simp) 0 (([]++news).toArray++Builtin.zeroCells zv.cells (grownCap w (0+fs.length) 0 e - (0+fs.length))) (by simp)
  simp only [List.length_nil] at g1 g2 g3
  exact⟨_,_,I',by rw [hnil];exact hrun,g1,g2,g3⟩
 ·have hn:slen r.x=es.length:=by rw [hrx];rfl
  rw [hn] at hblk hnc htake hlen0 hspare
  have hzb:a0=some ⟨g,0,none⟩∧c0=cap:=by
   rw [hblk] at hrx
   simp only [Value.slice.injEq] at hrx
   exact⟨hrx.1.symm,hrx.2.2.symm⟩
  have hold:∃ olds,olds.length=es.length * k∧V.reps w I es.flatten olds∧(∀ x ∈ olds,one x)∧(∀ e' ∈ es,e'.length=k)∧V.lies w I k es g 0∧∀ j v,olds[j]? = some v→w.cell? ((⟨g,0,none⟩:Addr).add j)=some v:=by
   rcases hlies with rfl | ⟨b,o,hb,hlies⟩
   ·exact⟨[],by simp,by simp [V.reps],by simp,by simp,by simp only [V.lies],by simp⟩
   ·rw [hzb.1] at hb
    simp only [Option.some.injEq,Addr.mk.injEq,and_true] at hb
    obtain⟨rfl,rfl⟩:=hb
    obtain⟨p1,olds,p2,p3,p4⟩:=lies_vals hlies
    exact⟨olds,by rw [reps_length p2,flatten_len p1],p2,p3,p1,hlies,fun j v hv=>by rw [Addr.add_lit];exact(p4 j v hv).1⟩
  obtain⟨olds,o1,o2,o3,o4,o5,o6⟩:=hold
  by_cases hroom:es.length+fs.length≤cap
  ·
   have hfit:es.length * k+news.length≤cur.size:=by rw [hnl,hcs,← Nat.add_mul];exact Nat.mul_le_mul_right _ hroom
   have hrun:=run_append_room_own (P:=C.P) w t tx ty e i ht hi g 0 es.length cap x fs.length news (hi1▸hsrc) hroom cur e0 hg (by rw [hi1,Nat.zero_add];exact hfit)
   rw [hi1,Nat.zero_add] at hrun
   have hgb:r.x.ownBlock=some g:=by rw [hblk];rfl
   have hIg:∀ o,I g o→o < es.length * k:=fun o hi=>by
    rcases Nat.lt_or_ge o (es.length * k) with h | h
    ·exact h
    ·exact absurd hi (hspare g hgb o h)
   generalize hcur':(cur.toList.take (es.length * k)++news++cur.toList.drop (es.length * k+news.length)).toArray=cur' at hrun
   have hcur'l:cur'.toList=cur.toList.take (es.length * k)++news++cur.toList.drop (es.length * k+news.length):=by rw [← hcur']
   have hcs':cur'.size=cap * k:=by
    have:=congrArg List.length hcur'l
    simp only [Array.length_toList,List.length_append,List.length_take,List.length_drop] at this
    rw [this,← hcs]
    omega
   have hw':(w.setRow g cur').heap[g]? = some (.cells cur' e0 (0,0)):=setRow_heap w g cur cur' e0 (0,0) hg
   have hst:Stays w I (w.setRow g cur') (fun b o=>I b o∨(b=g∧es.length * k≤o∧o < (es.length+fs.length) * k)):=.but g hg (fun _ e=>by cases e) (h:=fun b o hi=>by
    refine⟨.inl hi,?_⟩
    by_cases hb:b=g
    ·subst hb
     have ho:=hIg o hi
     rw [cell_setRow_same w b o cur cur' e0 (0,0) hg]
     have:w.cell? ⟨b,o,none⟩=cur[o]? := by simp [World.cell?, hg]
     rw [this,← Array.getElem?_toList,hcur'l,List.append_assoc,List.getElem?_append_left (by simp;omega),List.getElem?_take,if_pos ho,Array.getElem?_toList]
    ·exact cell_setRow_other w g cur' _ hb) (hb:=fun b' hb'=>setRow_other w g b' cur' hb')
   have hblkm:g ∈ blks S.boxes S.rows:=by
    rw [hrows]
    exact List.mem_append.2 (.inr (List.mem_filterMap.2 ⟨r,List.mem_cons_self,hgb⟩))
   have hnd:=hW.heap.nodup
   rw [hrows] at hnd
   have hperm:(blks S.boxes (r::rs)).Perm (g::blks S.boxes rs):=by
    have:Row.blk r=some g:=hgb
    simp only [blks,List.filterMap_cons,this]
    exact List.perm_middle
   have hg':g ∉ blks S.boxes rs:=(List.nodup_cons.1 (hperm.nodup_iff.1 hnd)).1
   have W0:=hW.drop hrows
   have hH:Heap (w.setRow g cur') (fun b o=>I b o∨(b=g∧es.length * k≤o∧o < (es.length+fs.length) * k)) S.boxes rs:=by
    refine W0.heap.step hst (fun b hb=>setRow_other w g b cur' (fun e=>hg' (e▸hb))) (fun b hb o hi=>?_) (fun b o hi=>?_)
    ·rcases hi with hi | ⟨rfl,_⟩
     ·exact hi
     ·exact absurd hb hg'
    ·rcases hi with hi | ⟨rfl,_⟩
     ·simpa using hW.heap.inn b o hi
     ·simpa using (Array.getElem?_eq_some_iff.1 hg).1
   have hlen:(es++fs).length=es.length+fs.length:=by simp
   have htk':cur'.toList.take ((es.length+fs.length) * k)=olds++news:=by
    have e1:cur.toList.take (es.length * k)=olds:=by
     apply List.ext_getElem?
     intro j
     rw [List.getElem?_take]
     by_cases hj:j < es.length * k
     ·have hjo:j < olds.length:=by omega
      have:=o6 j _ (List.getElem?_eq_getElem hjo)
      rw [Addr.add_lit] at this
      simp only [World.cell?, hg,Option.isSome_none,Bool.false_eq_true,if_false,Nat.zero_add] at this
      rw [if_pos hj,Array.getElem?_toList,this,List.getElem?_eq_getElem hjo]
     ·rw [if_neg hj,List.getElem?_eq_none (by omega)]
    rw [hcur'l,e1,List.take_left']
    rw [List.length_append,o1,hnl,Nat.add_mul]
   refine⟨.slice (some ⟨g,0,none⟩) (es.length+fs.length) cap,w.setRow g cur',_,by rw [hblk];exact hrun,⟨⟨hH.bx,fun r' hr'=>?_,?_,hH.inn,hH.glob⟩,fun b hb=>?_,?_,hW.lo⟩,hst,?_⟩
   ·rcases List.mem_cons.1 hr' with rfl | hr'
    ·refine⟨hk0,⟨e0,_,by simp only [slen,List.length_append,o1,hnl,Nat.add_mul],.inr ⟨g,cap,cur',rfl,Nat.zero_le _,hw',hroom,hcm,hcs',htk'⟩⟩,fun g2 hg2 o ho hi=>?_⟩
     simp only [Value.ownBlock,Option.some.injEq] at hg2
     subst hg2
     simp only [slen] at ho
     rcases hi with hi | ⟨_,_,hi⟩
     ·have:=hIg o hi
      have:es.length * k≤(es.length+fs.length) * k:=Nat.mul_le_mul_right _ (Nat.le_add_right _ _)
      omega
     ·omega
    ·exact hH.rw r' hr'
   ·have:(blks S.boxes ((⟨.slice (some ⟨g,0,none⟩) (es.length+fs.length) cap,k,e⟩:Row)::rs)).Perm (g::blks S.boxes rs):=by
     simp only [blks,List.filterMap_cons,Row.blk,Value.ownBlock]
     exact List.perm_middle
    exact this.nodup_iff.2 (hperm.nodup_iff.1 hnd)
   ·have:(blks S.boxes ((⟨.slice (some ⟨g,0,none⟩) (es.length+fs.length) cap,k,e⟩:Row)::rs)).Perm (g::blks S.boxes rs):=by
     simp only [blks,List.filterMap_cons,Row.blk,Value.ownBlock]
     exact List.perm_middle
    exact hW.mine b (by rw [hrows];exact hperm.mem_iff.2 (this.mem_iff.1 hb))
   ·exact hW.keeps.trans ⟨rfl,rfl,rfl,by simp,fun b hb=>setRow_other w g b cur' (fun e=>hW.mine g hblkm (e▸hb)),hst,(fun b o hb hi=>by
     rcases hi with hi | ⟨rfl,_⟩
     ·exact hi
     ·exact absurd hb (hW.mine b hblkm)),Nat.le_refl _⟩
   ·simp only [V.rep]
    refine⟨fun y hy=>(Option.some.inj hy),_,cap,by rw [hlen],by rw [hlen];exact hroom,.inr ⟨g,0,rfl,?_⟩⟩
    rw [lies_append]
    refine⟨V.lies_mono hst _ _ _ _ o5,lies_of_cells (V.reps_mono hst _ _ hn1) hfk fun j x hx=>⟨?_,.inr ⟨rfl,by omega,?_⟩,hn2 x (List.mem_of_getElem? hx)⟩⟩
    ·rw [cell_setRow_same w g _ cur cur' e0 (0,0) hg,← Array.getElem?_toList,hcur'l,List.append_assoc,Nat.zero_add]
     have ht:(cur.toList.take (es.length * k)).length=es.length * k:=by simp;omega
     rw [List.getElem?_append_right (by omega),ht,Nat.add_sub_cancel_left,List.getElem?_append_left (List.getElem?_eq_some_iff.1 hx).1]
     exact hx
    ·have:=(List.getElem?_eq_some_iff.1 hx).1
     rw [Nat.add_mul];omega
  ·
   have hold':(Builtin.firstCells i.size es.length (.slice (some ⟨g,0,none⟩) es.length cap)).run C.P w.drew=.ok olds.toArray w.drew :=
    run_firstCells_some w.drew i.size es.length ⟨g,0,none⟩ es.length cap olds (by rw [hi1];exact o1) (by simpa using o6)
   have hrun:=run_append_grow_src (P:=C.P) w t tx ty e i zv ht hi hi3 (some ⟨g,0,none⟩) es.length cap olds hold' x fs.length news (hi1▸hsrc) (by omega) (by omega) (by rw [hi2];exact growslice_fits (by omega) hbound)
   obtain⟨I',g1,g2,g3⟩:=grown olds o1 o2 o3 o4 cap ((olds++news).toArray++Builtin.zeroCells zv.cells (grownCap w (es.length+fs.length) cap e - (es.length+fs.length))) (by simp)
   exact⟨_,_,I',by rw [hblk];exact hrun,g1,g2,g3⟩
end Go.VL
