/- Merged out of my texts GI GA GP GS GR GD GJ GT GU GV. -/
import Derived.Test.YtjdggbanifineaaGreatKVQa
import Derived.Shelf.SortG.Plain
import Derived.Test.YtjdggbanifineaaGreatProg
import Derived.Test.YtjdggbanifineaaGreatKa
import Derived.Test.YtjdggbanifineaaGreatKVR
import Derived.Shelf.SortG.SortNone
namespace Go.Proofs
open Go.Shelf
def Tryz.sortI_ren:Go.Shelf.Ren:=⟨fun | 53=>105 | 64=>128 | 63=>127 | 78=>153 | 79=>154 | 70=>144 | 71=>145 | 72=>146 | 73=>147 | 74=>148 | 75=>149 | 59=>150 | 76=>151 | 77=>152 | 88=>163 | 89=>164 | 90=>165 | 91=>166 | 92=>167 | 68=>53 | 96=>172 | n=>n,fun | 22=>91 | 23=>3 | 3=>3 | 51=>113 | 0=>0 | 67=>192 | 69=>49 | 4=>4 | 61=>185 | 60=>184 | 44=>58 | 5=>5 | 9=>9 | 75=>197 | 79=>201 | 83=>209 | 84=>210 | n=>n,fun | n=>n⟩
theorem Tryz.sortI:Go.Proofs.SlLaysN.n53 Tryz.prog Tryz.sortI_ren:={
 mixed:=by kernel_rfl
 f53:=⟨Tryz.f105.name,by decide,Tryz.func105.trans (congrArg some (by kernel_rfl))⟩
 f59:=⟨Tryz.f150.name,by decide,Tryz.func150.trans (congrArg some (by kernel_rfl))⟩
 f63:=⟨Tryz.f127.name,by decide,Tryz.func127.trans (congrArg some (by kernel_rfl))⟩
 f64:=Tryz.func128.trans (congrArg some (by kernel_rfl))
 f68:=⟨Tryz.f53.name,by decide,Tryz.func53.trans (congrArg some (by kernel_rfl))⟩
 f70:=⟨Tryz.f144.name,by decide,Tryz.func144.trans (congrArg some (by kernel_rfl))⟩
 f71:=⟨Tryz.f145.name,by decide,Tryz.func145.trans (congrArg some (by kernel_rfl))⟩
 f72:=⟨Tryz.f146.name,by decide,Tryz.func146.trans (congrArg some (by kernel_rfl))⟩
 f73:=⟨Tryz.f147.name,by decide,Tryz.func147.trans (congrArg some (by kernel_rfl))⟩
 f74:=⟨Tryz.f148.name,by decide,Tryz.func148.trans (congrArg some (by kernel_rfl))⟩
 f75:=⟨Tryz.f149.name,by decide,Tryz.func149.trans (congrArg some (by kernel_rfl))⟩
 f76:=⟨Tryz.f151.name,by decide,Tryz.func151.trans (congrArg some (by kernel_rfl))⟩
 f77:=⟨Tryz.f152.name,by decide,Tryz.func152.trans (congrArg some (by kernel_rfl))⟩
 f78:=Tryz.func153.trans (congrArg some (by kernel_rfl))
 f79:=Tryz.func154.trans (congrArg some (by kernel_rfl))
 f88:=⟨Tryz.f163.name,by decide,Tryz.func163.trans (congrArg some (by kernel_rfl))⟩
 f89:=Tryz.func164.trans (congrArg some (by kernel_rfl))
 f90:=Tryz.func165.trans (congrArg some (by kernel_rfl))
 f91:=⟨Tryz.f166.name,by decide,Tryz.func166.trans (congrArg some (by kernel_rfl))⟩
 f92:=⟨Tryz.f167.name,by decide,Tryz.func167.trans (congrArg some (by kernel_rfl))⟩
 f96:=⟨Tryz.f172.name,by decide,Tryz.func172.trans (congrArg some (by kernel_rfl))⟩
 t0:=Tryz.underlying0
 a0:=Tryz.isAgg0
 z0:=Tryz.sizeOf0
 v0:=Tryz.zeroValue0
 t3:=Tryz.underlying3
 a3:=Tryz.isAgg3
 z3:=Tryz.sizeOf3
 v3:=Tryz.zeroValue3
 t4:=Tryz.underlying4
 a4:=Tryz.isAgg4
 z4:=Tryz.sizeOf4
 v4:=Tryz.zeroValue4
 t5:=Tryz.underlying5
 a5:=Tryz.isAgg5
 z5:=Tryz.sizeOf5
 v5:=Tryz.zeroValue5
 t9:=Tryz.underlying9
 a9:=Tryz.isAgg9
 z9:=Tryz.sizeOf9
 v9:=Tryz.zeroValue9
 t22:=Tryz.underlying91
 a22:=Tryz.isAgg91
 z22:=Tryz.sizeOf91
 v22:=Tryz.zeroValue91
 t23:=Tryz.underlying3
 a23:=Tryz.isAgg3
 z23:=Tryz.sizeOf3
 v23:=Tryz.zeroValue3
 t44:=Tryz.underlying58
 a44:=Tryz.isAgg58
 z44:=Tryz.sizeOf58
 v44:=Tryz.zeroValue58
 t51:=Tryz.underlying113
 a51:=Tryz.isAgg113
 z51:=Tryz.sizeOf113
 v51:=Tryz.zeroValue113
 t60:=Tryz.underlying184
 a60:=Tryz.isAgg184
 z60:=Tryz.sizeOf184
 v60:=Tryz.zeroValue184
 t61:=Tryz.underlying185
 a61:=Tryz.isAgg185
 z61:=Tryz.sizeOf185
 v61:=Tryz.zeroValue185
 t67:=Tryz.underlying192
 a67:=Tryz.isAgg192
 z67:=Tryz.sizeOf192
 v67:=Tryz.zeroValue192
 t69:=Tryz.underlying49
 a69:=Tryz.isAgg49
 z69:=Tryz.sizeOf49
 v69:=Tryz.zeroValue49
 t75:=Tryz.underlying197
 a75:=Tryz.isAgg197
 z75:=Tryz.sizeOf197
 v75:=Tryz.zeroValue197
 t79:=Tryz.underlying201
 a79:=Tryz.isAgg201
 z79:=Tryz.sizeOf201
 v79:=Tryz.zeroValue201
 t83:=Tryz.underlying209
 a83:=Tryz.isAgg209
 z83:=Tryz.sizeOf209
 v83:=Tryz.zeroValue209
 t84:=Tryz.underlying210
 a84:=Tryz.isAgg210
 z84:=Tryz.sizeOf210
 v84:=Tryz.zeroValue210 }
end Go.Proofs
set_option maxRecDepth 100000
namespace Go.Sg
structure Add (G:Type) where
 z:G
 add:G→G→G
 ok:G→Prop
 okz:ok z
 okadd:∀ {a b},ok a→ok b→ok (add a b)
 comm:∀ {a b},ok a→ok b→add a b=add b a
 assoc:∀ {a b c},ok a→ok b→ok c→add (add a b) c=add a (add b c)
 zadd:∀ {a},ok a→add z a=a
theorem Add.addz {G:Type} (A:Add G) {a:G} (h:A.ok a):A.add a A.z=a:=by rw [A.comm h A.okz];exact A.zadd h
theorem Add.swap {G:Type} (A:Add G) {a b c:G} (ha:A.ok a) (hb:A.ok b) (hc:A.ok c):A.add (A.add a b) c=A.add (A.add a c) b:=by
 rw [A.assoc ha hb hc,A.comm hb hc,← A.assoc ha hc hb]
def Add.prod {G H:Type} (A:Add G) (B:Add H):Add (G × H) where
 z:=(A.z,B.z)
 add a b:=(A.add a.1 b.1,B.add a.2 b.2)
 ok a:=A.ok a.1∧B.ok a.2
 okz:=⟨A.okz,B.okz⟩
 okadd h h':=⟨A.okadd h.1 h'.1,B.okadd h.2 h'.2⟩
 comm h h':=by rw [A.comm h.1 h'.1,B.comm h.2 h'.2]
 assoc h h' h'':=by simp only [A.assoc h.1 h'.1 h''.1,B.assoc h.2 h'.2 h''.2]
 zadd h:=by simp only [A.zadd h.1,B.zadd h.2]
structure Ord (K:Type) where
 lt:K→K→Bool
 irr:∀ a,lt a a=false
 tr:∀ {a b c},lt a b=true→lt b c=true→lt a c=true
 tot:∀ {a b},lt a b=false→lt b a=false→a=b
theorem Ord.asym {K:Type} (O:Ord K) {a b:K} (h:O.lt a b=true):O.lt b a=false:=by
 cases h':O.lt b a
 ·rfl
 ·have:=O.tr h h';rw [O.irr] at this;cases this
theorem Ord.ne {K:Type} (O:Ord K) {a b:K} (h:O.lt a b=true):a ≠ b:=fun e=>by subst e;rw [O.irr] at h;cases h
section
variable {K G:Type} [DecidableEq K] [DecidableEq G] (O:Ord K) (A:Add G)
def put (k:K) (g:G):List (K × G)→List (K × G)
 | []=>if g=A.z then [] else [(k,g)]
 | p::r=>if O.lt p.1 k=true then p::put k g r else if p.1=k then (if A.add p.2 g=A.z then r else (k,A.add p.2 g)::r) else (if g=A.z then p::r else (k,g)::p::r)
def get (O:Ord K) (A:Add G):List (K × G)→K→G
 | [],_=>A.z
 | p::r,k=>if p.1=k then p.2 else get O A r k
structure Canon (l:List (K × G)):Prop where
 sorted:l.Pairwise fun a b=>O.lt a.1 b.1=true
 val:∀ p ∈ l,p.2 ≠ A.z∧A.ok p.2
variable {O A}
omit [DecidableEq K] [DecidableEq G] in
theorem Canon.nil:Canon O A []:=⟨List.Pairwise.nil,fun _ hp=>absurd hp List.not_mem_nil⟩
omit [DecidableEq K] [DecidableEq G] in
theorem Canon.tail {p:K × G} {l:List (K × G)} (h:Canon O A (p::l)):Canon O A l:=⟨(List.pairwise_cons.1 h.sorted).2,fun q hq=>h.val q (List.mem_cons_of_mem _ hq)⟩
omit [DecidableEq G] in
theorem get_lt {k:K}:∀ {l:List (K × G)},(∀ p ∈ l,O.lt k p.1=true)→get O A l k=A.z
 | [],_=>rfl
 | p::r,h=>by
  unfold get
  rw [if_neg (fun e=>O.ne (h p List.mem_cons_self) e.symm)]
  exact get_lt fun q hq=>h q (List.mem_cons_of_mem _ hq)
omit [DecidableEq G] in
theorem Canon.get_head {p:K × G} {l:List (K × G)} (h:Canon O A (p::l)) {k:K} (hk:O.lt k p.1=true):get O A (p::l) k=A.z :=
 get_lt fun q hq=>by
  rcases List.mem_cons.1 hq with rfl | hq
  ·exact hk
  ·exact O.tr hk ((List.pairwise_cons.1 h.sorted).1 q hq)
omit [DecidableEq G] in
theorem Canon.get_ok:∀ {l:List (K × G)},Canon O A l→∀ k,A.ok (get O A l k)
 | [],_,_=>A.okz
 | p::r,h,k=>by
  unfold get
  split
  ·exact(h.val p List.mem_cons_self).2
  ·exact h.tail.get_ok k
omit [DecidableEq G] in
theorem Canon.ext:∀ {l m:List (K × G)},Canon O A l→Canon O A m→(∀ k,get O A l k=get O A m k)→l=m
 | [],[],_,_,_=>rfl
 | [],q::m,_,hm,h=>by
  have:=h q.1
  unfold get at this
  rw [if_pos rfl] at this
  exact absurd this.symm (hm.val q List.mem_cons_self).1
 | p::l,[],hl,_,h=>by
  have:=h p.1
  rw [show get O A (p::l) p.1=p.2 by unfold get;rw [if_pos rfl]] at this
  exact absurd this (hl.val p List.mem_cons_self).1
 | p::l,q::m,hl,hm,h=>by
  have e1:get O A (p::l) p.1=p.2:=by unfold get;rw [if_pos rfl]
  have e2:get O A (q::m) q.1=q.2:=by unfold get;rw [if_pos rfl]
  have hk:p.1=q.1:=by
   cases h1:O.lt p.1 q.1
   ·cases h2:O.lt q.1 p.1
    ·exact O.tot h1 h2
    ·have:=h q.1
     rw [e2,hl.get_head h2] at this
     exact absurd this.symm (hm.val q List.mem_cons_self).1
   ·have:=h p.1
    rw [e1,hm.get_head h1] at this
    exact absurd this (hl.val p List.mem_cons_self).1
  have hv:p.2=q.2:=by
   have:=h p.1
   rw [e1,hk,e2] at this
   exact this
  have hpq:p=q:=Prod.ext hk hv
  subst hpq
  rw [Canon.ext hl.tail hm.tail fun k=>?_]
  have:=h k
  by_cases e:p.1=k
  ·subst e
   have f1:=get_lt (A:=A) (List.pairwise_cons.1 hl.sorted).1
   have f2:=get_lt (A:=A) (List.pairwise_cons.1 hm.sorted).1
   rw [f1,f2]
  ·unfold get at this
   rwa [if_neg e,if_neg e] at this
theorem put_keys {k:K} {g:G}:∀ {l:List (K × G)} {q:K × G},q ∈ put O A k g l→q.1=k∨q ∈ l
 | [],q,h=>by
  unfold put at h
  split at h
  ·cases h
  ·rw [List.mem_singleton] at h;exact .inl (h▸rfl)
 | p::r,q,h=>by
  unfold put at h
  split at h
  ·rcases List.mem_cons.1 h with rfl | h
   ·exact .inr List.mem_cons_self
   ·exact(put_keys h).imp id (List.mem_cons_of_mem _)
  ·split at h
   ·split at h
    ·exact .inr (List.mem_cons_of_mem _ h)
    ·rcases List.mem_cons.1 h with rfl | h
     ·exact .inl rfl
     ·exact .inr (List.mem_cons_of_mem _ h)
   ·split at h
    ·exact .inr h
    ·rcases List.mem_cons.1 h with rfl | h
     ·exact .inl rfl
     ·exact .inr h
theorem Canon.put {k:K} {g:G} (hg:A.ok g):∀ {l:List (K × G)},Canon O A l→Canon O A (put O A k g l)
 | [],_=>by
  unfold Sg.put
  split
  ·exact Canon.nil
  ·rename_i h0
   exact⟨by simp,fun q hq=>by rw [List.mem_singleton] at hq;subst hq;exact⟨h0,hg⟩⟩
 | p::r,h=>by
  have hc:=List.pairwise_cons.1 h.sorted
  have ih:=h.tail.put (k:=k) hg
  have hp:=h.val p List.mem_cons_self
  unfold Sg.put
  split
  ·rename_i h1
   refine⟨List.pairwise_cons.2 ⟨fun q hq=>?_,ih.sorted⟩,fun q hq=>?_⟩
   ·rcases put_keys hq with e | hq
    ·rw [e];exact h1
    ·exact hc.1 q hq
   ·rcases List.mem_cons.1 hq with rfl | hq
    ·exact hp
    ·exact ih.val q hq
  ·rename_i h1
   split
   ·rename_i h2
    split
    ·exact h.tail
    ·rename_i h3
     refine⟨List.pairwise_cons.2 ⟨fun q hq=>h2▸hc.1 q hq,hc.2⟩,fun q hq=>?_⟩
     rcases List.mem_cons.1 hq with rfl | hq
     ·exact⟨h3,A.okadd hp.2 hg⟩
     ·exact h.val q (List.mem_cons_of_mem _ hq)
   ·rename_i h2
    have h4:O.lt k p.1=true:=by
     cases h5:O.lt k p.1
     ·exact absurd (O.tot (by simpa using h1) h5) h2
     ·rfl
    split
    ·exact h
    ·rename_i h3
     refine⟨List.pairwise_cons.2 ⟨fun q hq=>?_,h.sorted⟩,fun q hq=>?_⟩
     ·rcases List.mem_cons.1 hq with rfl | hq
      ·exact h4
      ·exact O.tr h4 (hc.1 q hq)
     ·rcases List.mem_cons.1 hq with rfl | hq
      ·exact⟨h3,hg⟩
      ·exact h.val q hq
theorem get_put {k:K} {g:G} (hg:A.ok g) (k':K):∀ {l:List (K × G)},Canon O A l→get O A (put O A k g l) k'=if k'=k then A.add (get O A l k) g else get O A l k'
 | [],_=>by
  unfold put
  split
  ·rename_i h0
   subst h0
   simp only [get]
   split
   ·exact(A.zadd hg).symm
   ·rfl
  ·simp only [get]
   by_cases e:k=k'
   ·rw [if_pos e,if_pos e.symm,A.zadd hg]
   ·rw [if_neg e,if_neg fun h=>e h.symm]
 | p::r,h=>by
  have hp:=h.val p List.mem_cons_self
  have ih:=get_put (k:=k) hg k' h.tail
  have hr:=get_lt (A:=A) (List.pairwise_cons.1 h.sorted).1
  unfold put
  split
  ·rename_i h1
   have hpk:p.1 ≠ k:=O.ne h1
   simp only [get,ih,if_neg hpk]
   by_cases e:p.1=k'
   ·rw [if_pos e,if_neg fun h=>hpk (e.trans h),if_pos e]
   ·rw [if_neg e,if_neg e]
  ·rename_i h1
   split
   ·rename_i h2
    subst h2
    have e0:get O A (p::r) p.1=p.2:=by simp only [get,if_true]
    split
    ·rename_i h3
     by_cases e:k'=p.1
     ·subst e
      rw [if_pos rfl,e0,hr,h3]
     ·rw [if_neg e]
      simp only [get]
      rw [if_neg fun h:p.1=k'=>e h.symm]
    ·rw [e0]
     by_cases e:p.1=k'
     ·subst e
      rw [if_pos rfl]
      simp only [get,if_true]
     ·rw [if_neg fun h=>e h.symm]
      simp only [get]
      rw [if_neg e,if_neg e]
   ·rename_i h2
    have h4:O.lt k p.1=true:=by
     cases h5:O.lt k p.1
     ·exact absurd (O.tot (by simpa using h1) h5) h2
     ·rfl
    have hk:=h.get_head h4
    split
    ·rename_i h3
     subst h3
     by_cases e:k'=k
     ·subst e;rw [if_pos rfl,hk,A.zadd A.okz]
     ·rw [if_neg e]
    ·by_cases e:k'=k
     ·subst e
      rw [if_pos rfl,hk,A.zadd hg]
      simp only [get,if_true]
     ·rw [if_neg e]
      simp only [get]
      rw [if_neg fun h=>e h.symm]
def puts (O:Ord K) (A:Add G) (l:List (K × G)) (m:List (K × G)):List (K × G):=m.foldl (fun l p=>put O A p.1 p.2 l) l
def sumAt (O:Ord K) (A:Add G):List (K × G)→K→G
 | [],_=>A.z
 | p::m,k=>if p.1=k then A.add p.2 (sumAt O A m k) else sumAt O A m k
omit [DecidableEq G] in
theorem sumAt_ok {m:List (K × G)} (h:∀ p ∈ m,A.ok p.2) (k:K):A.ok (sumAt O A m k):=by
 induction m with
 | nil=>exact A.okz
 | cons p m ih =>
  have:=ih fun q hq=>h q (List.mem_cons_of_mem _ hq)
  simp only [sumAt]
  split
  ·exact A.okadd (h p List.mem_cons_self) this
  ·exact this
theorem puts_spec:∀ {m l:List (K × G)},Canon O A l→(∀ p ∈ m,A.ok p.2)→Canon O A (puts O A l m)∧∀ k,get O A (puts O A l m) k=A.add (get O A l k) (sumAt O A m k)
 | [],l,hl,_=>⟨hl,fun k=>(A.addz (hl.get_ok k)).symm⟩
 | p::m,l,hl,hm=>by
  have hp:=hm p List.mem_cons_self
  have hm':=fun q hq=>hm q (List.mem_cons_of_mem _ hq)
  obtain⟨h1,h2⟩:=puts_spec (m:=m) (hl.put (k:=p.1) hp) hm'
  refine⟨h1,fun k=>?_⟩
  have hs:=sumAt_ok (O:=O) hm' k
  show get O A (puts O A (put O A p.1 p.2 l) m) k=_
  rw [h2 k,get_put hp k hl]
  simp only [sumAt]
  by_cases e:p.1=k
  ·subst e
   rw [if_pos rfl,if_pos rfl,A.assoc (hl.get_ok _) hp hs]
  ·rw [if_neg fun h=>e h.symm,if_neg e]
omit [DecidableEq G] in
theorem sumAt_perm {m n:List (K × G)} (h:m.Perm n) (hm:∀ p ∈ m,A.ok p.2) (k:K):sumAt O A m k=sumAt O A n k:=by
 induction h with
 | nil=>rfl
 | cons x h ih=>simp only [sumAt];rw [ih fun q hq=>hm q (List.mem_cons_of_mem _ hq)]
 | swap x y l =>
  have hs:=sumAt_ok (O:=O) (A:=A) (m:=l) (fun q hq=>hm q (List.mem_cons_of_mem _ (List.mem_cons_of_mem _ hq))) k
  have hx:=hm x (List.mem_cons_of_mem _ List.mem_cons_self)
  have hy:=hm y List.mem_cons_self
  simp only [sumAt]
  by_cases e1:x.1=k <;> by_cases e2:y.1=k <;> simp only [e1,e2,if_true,if_false]
  rw [← A.assoc hy hx hs,A.comm hy hx,A.assoc hx hy hs]
 | trans h1 _ ih1 ih2=>exact(ih1 hm).trans (ih2 fun q hq=>hm q (h1.mem_iff.2 hq))
omit [DecidableEq G] in
theorem Canon.sum:∀ {l:List (K × G)},Canon O A l→∀ k,sumAt O A l k=get O A l k
 | [],_,_=>rfl
 | p::r,h,k=>by
  have ih:=h.tail.sum k
  simp only [sumAt,get]
  split
  ·rename_i e
   subst e
   rw [ih,get_lt (List.pairwise_cons.1 h.sorted).1,A.addz (h.val p List.mem_cons_self).2]
  ·exact ih
end
section
variable {K G:Type} [DecidableEq K] [DecidableEq G] {O:Ord K} {A:Add G}
def single (A:Add G) (k:K) (g:G):List (K × G):=if g=A.z then [] else [(k,g)]
theorem put_end {k:K} {g g':G} (hg:A.ok g) (hg':A.ok g'):∀ {l:List (K × G)},(∀ p ∈ l,O.lt p.1 k=true)→put O A k g' (l++single A k g)=l++single A k (A.add g g')
 | [],_=>by
  rw [List.nil_append,List.nil_append]
  unfold single
  by_cases h:g=A.z
  ·subst h
   rw [if_pos rfl,A.zadd hg']
   rfl
  ·rw [if_neg h]
   unfold put
   rw [if_neg (by rw [O.irr];decide),if_pos rfl]
 | p::l,h=>by
  rw [List.cons_append]
  unfold put
  rw [if_pos (h p List.mem_cons_self),put_end hg hg' fun q hq=>h q (List.mem_cons_of_mem _ hq)]
  rfl
theorem puts_end {k:K} {l:List (K × G)} (h:∀ p ∈ l,O.lt p.1 k=true):∀ {m:List (K × G)} {g:G},A.ok g→(∀ q ∈ m,q.1=k∧A.ok q.2)→puts O A (l++single A k g) m=l++single A k (m.foldl (fun s p=>A.add s p.2) g)
 | [],_,_,_=>rfl
 | p::m,g,hg,hm=>by
  obtain⟨h1,h2⟩:=hm p List.mem_cons_self
  show puts O A (put O A p.1 p.2 (l++single A k g)) m=_
  rw [h1,put_end hg h2 h]
  exact puts_end h (A.okadd hg h2) fun q hq=>hm q (List.mem_cons_of_mem _ hq)
theorem puts_key {P:K→Prop}:∀ {m l:List (K × G)},(∀ q ∈ l,P q.1)→(∀ q ∈ m,P q.1)→∀ q ∈ puts O A l m,P q.1
 | [],_,hl,_,q,hq=>hl q hq
 | p::m,l,hl,hm,q,hq=>by
  refine puts_key (m:=m) (l:=put O A p.1 p.2 l) (fun r hr=>?_) (fun r hr=>hm r (List.mem_cons_of_mem _ hr)) q hq
  rcases put_keys hr with e | hr
  ·rw [e];exact hm p List.mem_cons_self
  ·exact hl r hr
end
def Add.map {K G:Type} [DecidableEq K] [DecidableEq G] (O:Ord K) (A:Add G):Add (List (K × G)) where
 z:=[]
 add l m:=puts O A l m
 ok l:=Canon O A l
 okz:=Canon.nil
 okadd h h':=(puts_spec h fun p hp=>(h'.val p hp).2).1
 comm {a b} h h':=by
  have s1:=puts_spec h fun p hp=>(h'.val p hp).2
  have s2:=puts_spec h' fun p hp=>(h.val p hp).2
  exact Canon.ext s1.1 s2.1 fun k=>by rw [s1.2,s2.2,h.sum,h'.sum,A.comm (h.get_ok k) (h'.get_ok k)]
 assoc {a b c} h h' h'':=by
  have s1:=puts_spec h fun p hp=>(h'.val p hp).2
  have s2:=puts_spec s1.1 fun p hp=>(h''.val p hp).2
  have s3:=puts_spec h' fun p hp=>(h''.val p hp).2
  have s4:=puts_spec h fun p hp=>(s3.1.val p hp).2
  exact Canon.ext s2.1 s4.1 fun k=>by rw [s2.2,s1.2,s4.2,s3.1.sum,s3.2,h'.sum,h''.sum,A.assoc (h.get_ok k) (h'.get_ok k) (h''.get_ok k)]
 zadd {a} h:=by
  have s1:=puts_spec (Canon.nil (O:=O) (A:=A)) fun p hp=>(h.val p hp).2
  exact Canon.ext s1.1 h fun k=>by rw [s1.2,h.sum];exact A.zadd (h.get_ok k)
theorem single_canon {K G:Type} [DecidableEq K] [DecidableEq G] (O:Ord K) (A:Add G) {k:K} {g:G} (h:A.ok g):Canon O A (single A k g):=by
 unfold single
 split
 ·exact Canon.nil
 ·rename_i h0
  exact⟨by simp,fun q hq=>by rw [List.mem_singleton] at hq;subst hq;exact⟨h0,h⟩⟩
theorem puts_single {K G:Type} [DecidableEq K] [DecidableEq G] (O:Ord K) (A:Add G) {l:List (K × G)} (hl:Canon O A l) (k:K) {g:G} (hg:A.ok g):puts O A l (single A k g)=put O A k g l:=by
 unfold single
 split
 ·rename_i h0
  subst h0
  refine Canon.ext hl (hl.put hg) fun k'=>?_
  rw [get_put hg k' hl]
  split
  ·rename_i e;subst e;exact(A.addz (hl.get_ok _)).symm
  ·rfl
 ·rfl
end Go.Sg
set_option maxRecDepth 100000
set_option linter.unusedSimpArgs false
namespace Go.Ar
open Go.VL
structure Pre {α:Type} (c:α→α→Int):Prop where
 anti:∀ a b,c b a=- c a b
 trans:∀ a b d,c a b≤0→c b d≤0→c a d≤0
section
variable {α β:Type}
theorem Pre.refl {c:α→α→Int} (h:Pre c) (a:α):c a a=0:=by have:=h.anti a a;omega
theorem Pre.pull {c:α→α→Int} (h:Pre c) (f:β→α):Pre fun a b=>c (f a) (f b):=⟨fun _ _=>h.anti _ _,fun _ _ _=>h.trans _ _ _⟩
theorem Pre.lex {c d:α→α→Int} (h:Pre c) (h':Pre d):Pre fun a b=>if c a b=0 then d a b else c a b where
 anti a b:=by
  have e:=h.anti a b
  by_cases h0:c a b=0
  ·rw [if_pos h0,if_pos (by omega)];exact h'.anti a b
  ·rw [if_neg h0,if_neg (by omega)];exact e
 trans a b x:=by
  have e1:=h.anti a b;have e2:=h.anti b x;have e3:=h.anti a x
  have t1:=h.trans a b x;have t2:=h.trans x a b;have t3:=h.trans b x a
  have t4:=h.trans a x b;have t5:=h.trans b a x;have t6:=h.trans x b a
  have t:=h'.trans a b x
  intro h1 h2
  split at h1 <;> split at h2 <;> split <;> first | omega | (exact t h1 h2)
theorem Pre.lt_trans {c:α→α→Int} (h:Pre c) {a b d:α} (h1:c a b < 0) (h2:c b d < 0):c a d < 0:=by
 have e1:=h.anti a b;have e2:=h.anti b d;have e3:=h.anti a d
 have t1:=h.trans a b d (by omega) (by omega)
 have t2:=h.trans d a b
 omega
end
theorem pre_cmpI:Pre cmpI:=⟨fun a b=>by unfold cmpI;repeat' split;all_goals omega,fun a b d=>by unfold cmpI;repeat' split;all_goals omega⟩
def cmpB (a b:List UInt8):Int:=if Op.bytesLess a b=true then -1 else if a=b then 0 else 1
theorem pre_cmpB:Pre cmpB:=by
 have cons:∀ (x y:UInt8) (l m:List UInt8),cmpB (x::l) (y::m)=if cmpI x.toNat y.toNat=0 then cmpB l m else cmpI x.toNat y.toNat:=by
  intro x y l m
  unfold cmpB cmpI
  simp only [Op.bytesLess,UInt8.lt_iff_toNat_lt,List.cons.injEq]
  by_cases e:x=y
  ·subst e;simp
  ·have:x.toNat ≠ y.toNat:=fun h=>e (UInt8.toNat_inj.1 h)
   rcases Nat.lt_or_gt_of_ne this with h | h
   ·simp [h,e]
   ·simp [e,Nat.not_lt.2 (Nat.le_of_lt h),h,show ¬ ((x.toNat:Int) < y.toNat) by omega]
 have nil1:∀ (y:UInt8) (m:List UInt8),cmpB [] (y::m)=-1:=fun _ _=>by simp [cmpB,Op.bytesLess]
 have nil2:∀ (y:UInt8) (m:List UInt8),cmpB (y::m) []=1:=fun _ _=>by simp [cmpB,Op.bytesLess]
 have nil:cmpB [] []=0:=by simp [cmpB,Op.bytesLess]
 refine⟨fun a=>?_,fun a=>?_⟩
 ·induction a with
  | nil=>intro b;cases b <;> simp [nil,nil1,nil2]
  | cons x a ih=>intro b;cases b with
   | nil=>simp [nil1,nil2]
   | cons y b =>
    rw [cons,cons,ih b,pre_cmpI.anti]
    by_cases h:cmpI (x.toNat:Int) y.toNat=0
    ·rw [if_pos h,if_pos (by omega)]
    ·rw [if_neg h,if_neg (by omega)]
 ·induction a with
  | nil=>intro b d;cases b <;> cases d <;> simp [nil,nil1,nil2]
  | cons x a ih=>intro b d;cases b with
   | nil=>simp [nil2]
   | cons y b=>cases d with
    | nil=>intro _ h;simp [nil2] at h
    | cons z d =>
     rw [cons,cons,cons]
     have e1:=pre_cmpI.anti (x.toNat:Int) y.toNat;have e2:=pre_cmpI.anti (y.toNat:Int) z.toNat;have e3:=pre_cmpI.anti (x.toNat:Int) z.toNat
     have t1:=pre_cmpI.trans (x.toNat:Int) y.toNat z.toNat;have t2:=pre_cmpI.trans (z.toNat:Int) x.toNat y.toNat;have t3:=pre_cmpI.trans (y.toNat:Int) z.toNat x.toNat
     have t:=ih b d
     intro h1 h2
     split at h1 <;> split at h2 <;> split <;> first | omega | (exact t h1 h2)
theorem cmpS_B (a b:Str):cmpS a b=cmpB a.data.toList b.data.toList:=by
 have:(a=b)↔(a.data.toList=b.data.toList):=⟨fun h=>by rw [h],fun h=>ByteArray.ext (Array.ext' h)⟩
 unfold cmpS cmpB less
 by_cases h:Op.bytesLess a.data.toList b.data.toList=true
 ·simp [h]
 ·by_cases e:a=b
  ·simp [h,e]
  ·have e':¬ a.data.toList=b.data.toList:=fun x=>e (this.2 x)
   rw [if_neg h,if_neg h,if_neg e',if_neg]
   simpa [h] using e
theorem pre_cmpS:Pre cmpS:=by
 have:=pre_cmpB.pull fun s:Str=>s.data.toList
 rwa [show cmpS=fun a b=>cmpB a.data.toList b.data.toList from funext fun a=>funext fun b=>cmpS_B a b]
theorem orL2 (a b:Int):orL [a,b]=if a=0 then b else a:=by
 simp only [orL]
 by_cases h:a=0
 ·by_cases h':b=0 <;> simp [h,h']
 ·simp [h]
theorem orL_cons (a:Int) (l:List Int):orL (a::l)=if a=0 then orL l else a:=rfl
theorem pre_cmpID:Pre cmpID:=by
 have h:=(pre_cmpS.pull FID.src).lex (pre_cmpI.pull FID.seq)
 have e:cmpID=fun a b=>if cmpS a.src b.src=0 then cmpI a.seq b.seq else cmpS a.src b.src:=by
  funext a b
  unfold cmpID
  rw [orL2]
  by_cases e:a=b
  ·subst e;simp [cmpS_refl,cmpI]
  ·simp [e]
 rwa [e]
theorem pre_cmpVal:Pre cmpVal:=by
 have h:=(pre_cmpI.pull Val.kind).lex ((pre_cmpI.pull Val.n).lex (pre_cmpS.pull Val.s))
 rwa [show cmpVal=_ from funext fun a=>funext fun b=>show orL _=_ by rw [orL_cons,orL2]]
theorem ite0 {x y:Int} (h:(if x=0 then y else x)=0):x=0∧y=0:=by
 split at h
 ·rename_i h0;exact⟨h0,h⟩
 ·contradiction
theorem cmpVal_eq0 {a b:Val}:cmpVal a b=0↔a=b:=by
 unfold cmpVal
 rw [orL_cons,orL2]
 constructor
 ·intro h
  split at h
  ·rename_i h1
   split at h
   ·rename_i h2
    have q1:=cmpI_eq0.1 h1;have q2:=cmpI_eq0.1 h2;have q3:=cmpS_eq0.1 h
    cases a;cases b;simp_all
   ·contradiction
  ·contradiction
 ·rintro rfl;simp [cmpI_eq0.2,cmpS_eq0.2]
def ordOf {K:Type} (c:K→K→Int) (h:Pre c) (h0:∀ {a b},c a b=0→a=b):Sg.Ord K where
 lt a b:=decide (c a b < 0)
 irr a:=by rw [h.refl];rfl
 tr {a b d} h1 h2:=by
  rw [decide_eq_true_eq] at *
  exact h.lt_trans h1 h2
 tot {a b} h1 h2:=by
  rw [decide_eq_false_iff_not] at *
  have:=h.anti a b
  exact h0 (by omega)
end Go.Ar
set_option maxRecDepth 100000
namespace Go.Ar
open Go.VL
section
variable {α:Type} {c:α→α→Int}
def Srt (c:α→α→Int) (l:List α):Prop:=l.Pairwise fun a b=>c a b≤0
theorem Srt.nil:Srt c []:=List.Pairwise.nil
theorem Srt.one (a:α):Srt c [a]:=by simp [Srt]
theorem srt_append {l m:List α}:Srt c (l++m)↔Srt c l∧Srt c m∧∀ a ∈ l,∀ b ∈ m,c a b≤0:=List.pairwise_append
theorem Srt.left {l m:List α} (h:Srt c (l++m)):Srt c l:=(srt_append.1 h).1
theorem Srt.right {l m:List α} (h:Srt c (l++m)):Srt c m:=(srt_append.1 h).2.1
theorem Pre.le_trans (h:Pre c) {a b d:α} (h1:c a b≤0) (h2:c b d≤0):c a d≤0:=h.trans _ _ _ h1 h2
theorem Pre.le_of_not (h:Pre c) {a b:α} (h1:¬ c b a < 0):c a b≤0:=by have:=h.anti b a;omega
theorem Srt.le_last (h:Pre c) {l:List α} {a:α} (hl:Srt c (l++[a])):∀ x ∈ l++[a],c x a≤0:=by
 intro x hx
 rcases List.mem_append.1 hx with hx | hx
 ·exact(srt_append.1 hl).2.2 x hx a (List.mem_singleton.2 rfl)
 ·rw [List.mem_singleton.1 hx,h.refl];exact Int.le_refl _
theorem Srt.head_le (h:Pre c) {l:List α} {a:α} (hl:Srt c (a::l)):∀ x ∈ a::l,c a x≤0:=by
 intro x hx
 rcases List.mem_cons.1 hx with rfl | hx
 ·rw [h.refl];exact Int.le_refl _
 ·exact(List.pairwise_cons.1 hl).1 x hx
theorem srt_across (h:Pre c) {u v:List α} (hu:Srt c u) (hv:Srt c v) (hl:u=[]∨v=[]∨∃ u' a b v',u=u'++[a]∧v=b::v'∧c a b≤0):∀ x ∈ u,∀ y ∈ v,c x y≤0:=by
 intro x hx y hy
 rcases hl with rfl | rfl | ⟨u',a,b,v',rfl,rfl,hab⟩
 ·cases hx
 ·cases hy
 ·exact h.le_trans (hu.le_last h x hx) (h.le_trans hab (hv.head_le h y hy))
theorem srt_join (h:Pre c) {u1 u2 v1 v2 w1 w2:List α} (hu:Srt c (u1++u2)) (hv:Srt c (v1++v2))
  (h1:u1=[]∨v2=[]∨∃ u' a b v',u1=u'++[a]∧v2=b::v'∧c a b≤0)
  (h2:v1=[]∨u2=[]∨∃ u' a b v',v1=u'++[a]∧u2=b::v'∧c a b≤0)
  (p1:w1.Perm (u1++v1)) (p2:w2.Perm (u2++v2)) (s1:Srt c w1) (s2:Srt c w2):Srt c (w1++w2):=by
 refine srt_append.2 ⟨s1,s2,fun x hx y hy=>?_⟩
 have hx:=p1.mem_iff.1 hx;have hy:=p2.mem_iff.1 hy
 have q1:=srt_across h hu.left hv.right h1;have q2:=srt_across h hv.left hu.right h2
 rcases List.mem_append.1 hx with hx | hx <;> rcases List.mem_append.1 hy with hy | hy
 ·exact(srt_append.1 hu).2.2 x hx y hy
 ·exact q1 x hx y hy
 ·exact q2 x hx y hy
 ·exact(srt_append.1 hv).2.2 x hx y hy
theorem srt_mid {l m:List α} {a:α} (h:Srt c (l++m)) (hl:∀ x ∈ l,c x a≤0) (hm:∀ x ∈ m,c a x≤0):Srt c (l++a::m):=by
 have h':=srt_append.1 h
 refine srt_append.2 ⟨h'.1,List.pairwise_cons.2 ⟨hm,h'.2.1⟩,fun x hx y hy=>?_⟩
 rcases List.mem_cons.1 hy with rfl | hy
 ·exact hl x hx
 ·exact h'.2.2 x hx y hy
theorem Srt.mid_l (h:Pre c) {l:List α} {a:α} (hl:Srt c l) (hd:l=[]∨∃ l' b,l=l'++[b]∧c b a≤0):∀ x ∈ l,c x a≤0:=by
 intro x hx
 rcases hd with rfl | ⟨l',b,rfl,hb⟩
 ·cases hx
 ·exact h.le_trans (hl.le_last h x hx) hb
theorem Srt.mid_r (h:Pre c) {l:List α} {a:α} (hl:Srt c l) (hd:l=[]∨∃ b l',l=b::l'∧c a b≤0):∀ x ∈ l,c a x≤0:=by
 intro x hx
 rcases hd with rfl | ⟨b,l',rfl,hb⟩
 ·cases hx
 ·exact h.le_trans hb (hl.head_le h x hx)
end
end Go.Ar
set_option maxRecDepth 100000
namespace Go.Ar
open Go.VL
section
variable {α:Type} {c:α→List V} {k:Nat}
theorem flatK_len (hc:∀ x,(c x).length=k) (l:List α):((l.map c).flatten).length=l.length * k:=by
 rw [flatten_len (k:=k) (by simpa using fun x _=>hc x),List.length_map]
theorem cellsK_len (hc:∀ x,(c x).length=k) (l:List α) (rest:List V):((l.map c).flatten++rest).length=l.length * k+rest.length:=by
 rw [List.length_append,flatK_len hc]
theorem set_cells (hc:∀ x,(c x).length=k) (l:List α) (rest:List V) (i:Nat) (hi:i < l.length) (x:α) :
  ((l.map c).flatten++rest).take (i * k)++c x++((l.map c).flatten++rest).drop (i * k+k)=((l.set i x).map c).flatten++rest:=by
 have h1:((l.take i).map c).flatten.length=i * k:=by rw [flatK_len hc,List.length_take,Nat.min_eq_left (Nat.le_of_lt hi)]
 have e:(l.map c).flatten++rest=((l.take i).map c).flatten++(c l[i]++(((l.drop (i+1)).map c).flatten++rest)):=by
  conv=>lhs;rw [← List.take_append_drop i l,List.drop_eq_getElem_cons hi]
  simp only [List.map_append,List.map_cons,List.flatten_append,List.flatten_cons,List.append_assoc]
 rw [e,List.take_left' h1,← List.drop_drop,List.drop_left' h1,List.drop_left' (hc _),List.set_eq_take_append_cons_drop,if_pos hi]
 simp only [List.map_append,List.map_cons,List.flatten_append,List.flatten_cons,List.append_assoc]
theorem get_cells (hc:∀ x,(c x).length=k) (l:List α) (rest:List V) (i:Nat) (hi:i < l.length):(((l.map c).flatten++rest).drop (i * k)).take k=c l[i]:=cut_block hc l rest i hi
theorem room_cells (hc:∀ x,(c x).length=k) (l:List α) (rest:List V) (i:Nat) (hi:i < l.length):i * k+k≤((l.map c).flatten++rest).length:=by
 rw [cellsK_len hc]
 have:i * k+k≤l.length * k:=by rw [← Nat.succ_mul];exact Nat.mul_le_mul_right k hi
 omega
theorem left_cells (hc:∀ x,(c x).length=k) (l:List α) (rest:List V) (i:Nat) (hi:i < l.length):k≤(((l.map c).flatten++rest).drop (i * k)).length:=by
 have:=room_cells hc l rest i hi
 rw [List.length_drop];omega
def swapL (l:List α) (i j:Nat) (hi:i < l.length) (hj:j < l.length):List α:=(l.set i l[j]).set j l[i]
theorem swapL_mid (A B C:List α) (x y:α) (i j:Nat) (hi:i < (A++x::(B++y::C)).length) (hj:j < (A++x::(B++y::C)).length) (ei:i=A.length) (ej:j=A.length+1+B.length):swapL (A++x::(B++y::C)) i j hi hj=A++y::(B++x::C):=by
 subst ei ej
 unfold swapL
 have e1:(A++x::(B++y::C))[A.length]=x:=by simp
 have e2:(A++x::(B++y::C))[A.length+1+B.length]=y:=by
  have:(A++x::(B++y::C))=(A++x::B)++y::C:=by simp
  simp only [this]
  rw [List.getElem_append_right (by simp;omega)]
  simp [show A.length+1+B.length - (A.length+(B.length+1))=0 by omega]
 rw [e1,e2]
 have s1:(A++x::(B++y::C)).set A.length y=A++y::(B++y::C):=by rw [List.set_append_right _ _ (Nat.le_refl _),Nat.sub_self];rfl
 rw [s1,show A++y::(B++y::C)=(A++y::B)++y::C by simp,List.set_append_right _ _ (by simp;omega)]
 simp [show A.length+1+B.length - (A.length+(B.length+1))=0 by omega]
theorem swapL_mid' (A B C:List α) (x y:α) (i j:Nat) (hi:i < (A++x::(B++y::C)).length) (hj:j < (A++x::(B++y::C)).length) (ei:i=A.length+1+B.length) (ej:j=A.length):swapL (A++x::(B++y::C)) i j hi hj=A++y::(B++x::C):=by
 rw [← swapL_mid A B C x y j i hj hi ej ei]
 unfold swapL
 rcases Nat.decEq i j with h | h
 ·rw [List.set_comm _ _ h]
 ·omega
theorem swap_form {l A B C:List α} {x y:α} {i j:Nat} (h:l=A++x::(B++y::C)) (ei:i=A.length) (ej:j=A.length+1+B.length) (hi:i < l.length) (hj:j < l.length):(l.set i l[j]).set j l[i]=A++y::(B++x::C):=by
 subst h;exact swapL_mid A B C x y i j hi hj ei ej
theorem swap_form' {l A B C:List α} {x y:α} {i j:Nat} (h:l=A++x::(B++y::C)) (ei:i=A.length+1+B.length) (ej:j=A.length) (hi:i < l.length) (hj:j < l.length):(l.set i l[j]).set j l[i]=A++y::(B++x::C):=by
 subst h;exact swapL_mid' A B C x y i j hi hj ei ej
theorem get_form {l A C:List α} {x:α} {i:Nat} (h:l=A++x::C) (ei:i=A.length) (hi:i < l.length):l[i]=x:=by
 subst h ei;simp
theorem get_mid {l A B C:List α} (h:l=A++(B++C)) {t i:Nat} (ei:i=A.length+t) (ht:t < B.length) (hi:i < l.length):l[i]=B[t]:=by
 subst h ei
 rw [List.getElem_append_right (by omega),List.getElem_append_left (by omega)]
 simp
theorem mid_eq {i k:Nat} (hi:i≤k) (hk:k≤4500000):IntKind.i64.wrap ((IntKind.u64.wrap (IntKind.i64.wrap ((i:Int)+(k:Int)))).fdiv (2 ^ min 1 IntKind.u64.bits))=(((i+k) / 2:Nat):Int):=by
 have e1:IntKind.i64.wrap ((i:Int)+(k:Int))=(i:Int)+k:=wrap_id (by omega) (by omega)
 have e2:IntKind.u64.wrap ((i:Int)+(k:Int))=(i:Int)+k:=by
  simp only [IntKind.wrap,IntKind.signed,IntKind.bits,Bool.false_and,Bool.false_eq_true,if_false]
  omega
 rw [e1,e2,show min 1 IntKind.u64.bits=1 from rfl,Int.fdiv_eq_ediv_of_nonneg _ (by decide),wrap_id (by omega) (by omega)]
 omega
end
end Go.Ar
set_option linter.unusedSimpArgs false
set_option maxRecDepth 100000
set_option linter.defProp false
namespace Go.Ar
open Go.VL Go.Sg
structure PK where
 key:Str
 event:Int
 id:FID
 val:Val
 tick:Int
 deriving DecidableEq
abbrev Pk:=PK × Int
abbrev cPk (p:Pk):List V:=[vstr p.1.key,vstr p.1.id.src,vint p.1.id.seq,vint p.1.event,vint p.1.val.kind,vint p.1.val.n,vstr p.1.val.s,vint p.1.tick,vint p.2]
abbrev vPks (l:List Pk):V:=.list none 9 (l.map cPk)
def cmpPK (a b:PK):Int:=orL [cmpS a.key b.key,cmpI a.event b.event,cmpID a.id b.id,cmpVal a.val b.val,cmpI a.tick b.tick]
theorem pre_cmpPK:Pre cmpPK:=by
 have h:=(pre_cmpS.pull PK.key).lex ((pre_cmpI.pull PK.event).lex ((pre_cmpID.pull PK.id).lex ((pre_cmpVal.pull PK.val).lex (pre_cmpI.pull PK.tick))))
 rwa [show cmpPK=_ from funext fun a=>funext fun b=>show orL _=_ by rw [orL_cons,orL_cons,orL_cons,orL2]]
theorem cmpPK_eq0 {a b:PK}:cmpPK a b=0↔a=b:=by
 unfold cmpPK
 rw [orL_cons,orL_cons,orL_cons,orL2]
 constructor
 ·intro h
  obtain⟨h1,h⟩:=ite0 h
  obtain⟨h2,h⟩:=ite0 h
  obtain⟨h3,h⟩:=ite0 h
  obtain⟨h4,h5⟩:=ite0 h
  have q1:=cmpS_eq0.1 h1;have q2:=cmpI_eq0.1 h2;have q3:=cmpID_eq0.1 h3;have q4:=cmpVal_eq0.1 h4;have q5:=cmpI_eq0.1 h5
  cases a;cases b;simp_all
 ·rintro rfl
  simp [cmpS_eq0.2,cmpI_eq0.2,cmpID_eq0.2,cmpVal_eq0.2]
def ordP:Sg.Ord PK:=ordOf cmpPK pre_cmpPK fun h=>cmpPK_eq0.1 h
def inW (n:Int):Prop:=-9223372036854775808≤n∧n < 9223372036854775808
theorem wrap_in (n:Int):inW (IntKind.i64.wrap n):=by
 unfold inW
 rw [IntKind.wrap_i64];omega
def addW:Sg.Add Int where
 z:=0
 add a b:=IntKind.i64.wrap (a+b)
 ok:=inW
 okz:=by unfold inW;omega
 okadd _ _:=wrap_in _
 comm _ _:=by rw [Int.add_comm]
 assoc {a b c} _ _ _:=by simp only [IntKind.wrap_i64];omega
 zadd {a} h:=by unfold inW at h;rw [Int.zero_add,wrap_id (by omega) (by omega)]
def consP (l:List Pk):List Pk:=puts ordP addW [] l
end Go.Ar
namespace Go.Proofs.YtjdggbanifineaaGreat
open Go.VL Go.Ar Go.Sg Go.Proofs.YtjdggbanifineaaGreat Go.Proofs.YtjdggbanifineaaGreat.Arr
def tbGD0:=(aI (aI (aI Ty.c25 Ty.c38) (aI Ty.c39 (aI Ty.c40 Ty.c41))) (aI (aI Ty.t26 (aI Ty.t28 Ty.t3)) (aI Ty.t30 (aI Ty.t9 Ty.t91))))
theorem cmpPk_ok (a b:Pk):OkP Tryz.prog 37 [.agg (cPk a),.agg (cPk b)] (vint (cmpPK a.1 b.1)):=by
 refine Ok.of_ex Ty.mixed Tryz.func37 rfl (by simp [Tryz.ntmps37]) (by kernel_rfl) fun F w0 I0=>?_
 simp only [↓rA,rB,buildOk,nt_is,simprocAttr,tbGD0,Tryz.results37]
 refine fun b1 h1=>?_;replace h1:=newb h1;try simp only [Nb] at h1
 simp only [↓rA,rB,buildOk,nt_is,simprocAttr,tbGD0,Tryz.results37]
 refine fun b2 h2=>?_;replace h2:=newb h2;try simp only [Nb] at h2
 simp only [↓rA,rB,buildOk,nt_is,simprocAttr,tbGD0,Tryz.results37,h1,h2]
 refine CallV_of _ (cmpS_ok a.1.key b.1.key).v ?_
 simp only [↓rA,rB,buildOk,nt_is,simprocAttr,tbGD0,Tryz.results37,h1,h2]
 refine CallV_of _ (cmpI_ok a.1.event b.1.event).v ?_
 simp only [↓rA,rB,buildOk,nt_is,simprocAttr,tbGD0,Tryz.results37,h1,h2]
 refine CallV_of _ (cmpID_ok a.1.id b.1.id).v ?_
 simp only [↓rA,rB,buildOk,nt_is,simprocAttr,tbGD0,Tryz.results37,h1,h2]
 refine CallV_of _ (cmpVal_ok a.1.val b.1.val).v ?_
 simp only [↓rA,rB,buildOk,nt_is,simprocAttr,tbGD0,Tryz.results37,h1,h2]
 refine CallV_of _ (cmpI_ok a.1.tick b.1.tick).v ?_
 simp only [↓rA,rB,buildOk,nt_is,simprocAttr,tbGD0,Tryz.results37,h1,h2]
 refine CallV_of _ (or_ok [cmpS a.1.key b.1.key,cmpI a.1.event b.1.event,cmpID a.1.id b.1.id,cmpVal a.1.val b.1.val,cmpI a.1.tick b.1.tick] (by simp)).v ?_
 simp only [↓rA,rB,buildOk,nt_is,simprocAttr,tbGD0,Tryz.results37]
 exact ret_done rfl
def tbGD1:=(aI (aI Ty.t26 Ty.t28) (aI Ty.t3 (aI Ty.t30 Ty.t9)))
theorem joinPk_ok (a b:Pk):OkP Tryz.prog 42 [.agg (cPk a),.agg (cPk b)] (.agg (cPk (a.1,addW.add a.2 b.2))):=by
 refine Ok.of_ex Ty.mixed Tryz.func42 rfl (by simp [Tryz.ntmps42]) (by kernel_rfl) fun F w0 I0=>?_
 simp only [↓rA,rB,buildOk,nt_is,simprocAttr,tbGD1,Tryz.results42]
 refine fun b1 h1=>?_;replace h1:=newb h1;try simp only [Nb] at h1
 simp only [↓rA,rB,buildOk,nt_is,simprocAttr,tbGD1,Tryz.results42]
 refine fun b2 h2=>?_;replace h2:=newb h2;try simp only [Nb] at h2
 simp only [↓rA,rB,buildOk,nt_is,simprocAttr,tbGD1,Tryz.results42,h1,h2]
 refine fun b3 h3=>?_;replace h3:=newb h3;try simp only [Nb] at h3
 simp only [↓rA,rB,buildOk,nt_is,simprocAttr,tbGD1,Tryz.results42,h1,h2,h3]
 exact ret_done rfl
def tbGD2:=(aI (aI Ty.t26 (aI Ty.t28 Ty.t3)) (aI Ty.t30 (aI Ty.t4 Ty.t9)))
theorem keepPk_ok (a:Pk):OkP Tryz.prog 44 [.agg (cPk a)] (vbool (decide (¬ a.2=0))):=by
 refine Ok.of_ex Ty.mixed Tryz.func44 rfl (by simp [Tryz.ntmps44]) (by kernel_rfl) fun F w0 I0=>?_
 simp only [↓rA,rB,buildOk,nt_is,simprocAttr,tbGD2,Tryz.results44]
 refine fun b1 h1=>?_;replace h1:=newb h1;try simp only [Nb] at h1
 simp only [↓rA,rB,buildOk,nt_is,simprocAttr,tbGD2,Tryz.results44,h1]
 exact ret_done (by simp)
def tbGD3:=(aI (aI (aI Ty.c108 Ty.c109) (aI Ty.c88 (aI Ty.t22 Ty.t26))) (aI (aI Ty.t28 (aI Ty.t3 Ty.t30)) (aI Ty.t4 (aI Ty.t9 Ty.t99))))
theorem sortNilP_ok (fv:V):OkP Tryz.prog 69 [nilS,fv] (.tup []):=by
 have h1:OkP Tryz.prog 108 [nilS,vint 0,vint 0,fv] (.tup []):=by
  refine Ok.of_exM [(4,1),(6,1)] Ty.mixed Tryz.func108 rfl (by simp [Tryz.ntmps108]) (by kernel_rfl) fun F w0 I0=>?_
  simp only [↓rA,rB,buildOk,nt_is,simprocAttr,tbGD3,Tryz.results69,Tryz.results88,Tryz.results108]
  refine EX_while Ty.mixed (by kernel_rfl) (fun _=>0) (fun(_:Unit) S=>S.σ 2=vint 0∧S.σ 8=vint 1∧S.rows=[]∧S.boxes=[]) () ⟨0,?_⟩ (fun _ S ⟨g2,g8,gr,gb⟩=>?_)
  ·simp only [↓rA,rB,buildOk,nt_is,simprocAttr,tbGD3,Tryz.results69,Tryz.results88,Tryz.results108]
   rfl
  ·simp only [↓rA,rB,buildOk,nt_is,simprocAttr,tbGD3,Tryz.results69,Tryz.results88,Tryz.results108,g2,g8,gr,gb]
   exact ret_done rfl
 have h2:OkP Tryz.prog 88 [nilS,vint 0,fv] (.tup []):=by
  refine Ok.of_ex Ty.mixed Tryz.func88 rfl (by simp [Tryz.ntmps88]) (by kernel_rfl) fun F w0 I0=>?_
  simp only [↓rA,rB,buildOk,nt_is,simprocAttr,tbGD3,Tryz.results69,Tryz.results88,Tryz.results108]
  refine EX_while Ty.mixed (by kernel_rfl) (fun _=>0) (fun(_:Unit) S=>S.σ 0=nilS∧S.σ 1=vint 0∧S.σ 2=fv∧S.σ 6=vint 20∧S.σ 7=vint 0∧S.σ 8=vint 20∧S.rows=[]∧S.boxes=[]) () ⟨0,?_⟩ (fun _ S ⟨g0,g1,g2,g6,g7,g8,gr,gb⟩=>?_)
  ·simp only [↓rA,rB,buildOk,nt_is,simprocAttr,tbGD3,Tryz.results69,Tryz.results88,Tryz.results108]
  ·simp only [↓rA,rB,buildOk,nt_is,simprocAttr,tbGD3,Tryz.results69,Tryz.results88,Tryz.results108,g0,g1,g2,g6,g7,g8,gr,gb]
   refine OkF_of _ h1 ?_
   simp only [↓rA,rB,buildOk,nt_is,simprocAttr,tbGD3,Tryz.results69,Tryz.results88,Tryz.results108,g0,g1,g2,g6,g7,g8,gr,gb]
   refine EX_while Ty.mixed (by kernel_rfl) (fun _=>0) (fun(_:Unit) S=>S.σ 1=vint 0∧S.σ 6=vint 20∧S.rows=[]∧S.boxes=[]) () ⟨0,?_⟩ (fun _ S ⟨g1,g6,gr,gb⟩=>?_)
   ·simp only [↓rA,rB,buildOk,nt_is,simprocAttr,tbGD3,Tryz.results69,Tryz.results88,Tryz.results108,g1,g6,gr,gb]
   ·simp only [↓rA,rB,buildOk,nt_is,simprocAttr,tbGD3,Tryz.results69,Tryz.results88,Tryz.results108,g1,g6,gr,gb]
    exact ret_done rfl
 refine Ok.of_ex Ty.mixed Tryz.func69 rfl (by simp [Tryz.ntmps69]) (by kernel_rfl) fun F w0 I0=>?_
 simp only [↓rA,rB,buildOk,nt_is,simprocAttr,tbGD3,Tryz.results69,Tryz.results88,Tryz.results108]
 refine OkF_of _ h2 ?_
 simp only [↓rA,rB,buildOk,nt_is,simprocAttr,tbGD3,Tryz.results69,Tryz.results88,Tryz.results108]
 exact ret_done rfl
def tbGD4:=(aI (aI Ty.t22 (aI Ty.t26 Ty.t28)) (aI (aI Ty.t3 Ty.t30) (aI Ty.t4 Ty.t9)))
theorem cloneP_ok (l:List Pk) (hl:l.length≤100000):Ok Tryz.prog 20 [vPks l] [] fun v bs rs=>rs=[]∧((l=[]∧v=nilS∧bs=[])∨∃ b c,l.length≤c∧v=.lit (.slice (some ⟨b,0,none⟩) l.length c)∧bs=[(b,.c ((l.map cPk).flatten++anys ((c - l.length) * 9)))]):=by
 cases l with
 | nil =>
  refine Ok.list0 (fun c=>?_) (fun p c=>?_)
  ·refine Ok.of_ex Ty.mixed Tryz.func20 rfl (by simp [Tryz.ntmps20]) (by kernel_rfl) fun F w0 I0=>?_
   simp only [↓rA,rB,buildOk,nt_is,simprocAttr,tbGD4,Tryz.results20]
   exact⟨nilS,[],[],Le.refl _,List.nil_sublist _,List.nil_sublist _,rfl,.inl ⟨rfl,rfl⟩⟩
  ·refine Ok.of_ex Ty.mixed Tryz.func20 rfl (by simp [Tryz.ntmps20]) (by kernel_rfl) fun F w0 I0=>?_
   simp only [↓rA,rB,buildOk,nt_is,simprocAttr,tbGD4,Tryz.results20]
   refine Or2.r ?_
   simp only [↓rA,rB,buildOk,nt_is,simprocAttr,tbGD4,Tryz.results20]
   refine fun b1 h1=>?_;replace h1:=newb h1;try simp only [Nb] at h1
   simp only [↓rA,rB,buildOk,nt_is,simprocAttr,tbGD4,Tryz.results20,h1]
   refine Or2.r ?_
   simp only [↓rA,rB,buildOk,nt_is,simprocAttr,tbGD4,Tryz.results20,h1,remB]
   refine⟨by simp,fun b c' hb hc=>?_⟩
   simp only [↓rA,rB,buildOk,nt_is,simprocAttr,tbGD4,Tryz.results20,h1,remB]
   refine⟨_,[_],[],Le.refl _,List.Sublist.refl _,List.nil_sublist _,rfl,?_⟩
   first | exact .inr ⟨b,c',rfl,by simp⟩ | exact⟨b,c',rfl,by simp⟩
 | cons x l =>
  refine Ok.of_ex Ty.mixed Tryz.func20 rfl (by simp [Tryz.ntmps20]) (by kernel_rfl) fun F w0 I0=>?_
  simp only [↓rA,rB,buildOk,nt_is,simprocAttr,tbGD4,Tryz.results20]
  refine Or2.r ?_
  simp only [↓rA,rB,buildOk,nt_is,simprocAttr,tbGD4,Tryz.results20]
  refine fun b1 h1=>?_;replace h1:=newb h1;try simp only [Nb] at h1
  simp only [↓rA,rB,buildOk,nt_is,simprocAttr,tbGD4,Tryz.results20,h1]
  refine Or2.r ?_
  simp only [↓rA,rB,buildOk,nt_is,simprocAttr,tbGD4,Tryz.results20,h1,remB]
  refine⟨⟨by simp,by rw [List.length_map];simp only [List.length_cons] at hl;omega⟩,fun b c' hb hc=>?_⟩
  simp only [↓rA,rB,buildOk,nt_is,simprocAttr,tbGD4,Tryz.results20,h1,remB]
  refine⟨_,[_],[],Le.refl _,List.Sublist.refl _,List.nil_sublist _,rfl,b,c',by simpa using hc,by simp,by simp⟩
end Go.Proofs.YtjdggbanifineaaGreat
set_option linter.unusedSimpArgs false
set_option maxRecDepth 100000
namespace Go.VL
open Go.RowKit Go.Sort Go.Shelf Go.Lib Go.Proofs
theorem vint_rep {w:World} {I:Cells}:∀ {zs:List Int} {rest:List V} {xs:List Value},V.reps w I ((zs.map fun z=>V.lit (.int .i64 z))++rest) xs→xs.take zs.length=zs.map (.int .i64)∧V.reps w I rest (xs.drop zs.length)
 | [],_,_,h=>⟨rfl,h⟩
 | z::zs,rest,[],h=>by simp [V.reps] at h
 | z::zs,rest,x::xs,h=>by
  simp only [List.map_cons,List.cons_append,V.reps,V.rep] at h
  obtain⟨h1,h2⟩:=vint_rep h.2
  exact⟨by simp [h.1,h1],by simpa using h2⟩
theorem lits_rep {w:World} {I:Cells}:∀ (zs:List Int),V.reps w I (zs.map fun z=>V.lit (.int .i64 z)) (zs.map (.int .i64))
 | []=>by simp [V.reps]
 | z::zs=>by simp only [List.map_cons,V.reps,V.rep,true_and];exact lits_rep zs
theorem putCells_ints (d:Array Int) (arr:Array Value) (h:d.size≤arr.size):(putCells (.int .i64) 0 d arr).toList=d.toList.map (.int .i64)++arr.toList.drop d.size:=by
 refine List.ext_getElem (by simp [putCells];omega) fun t h1 h2=>?_
 have ht:t < arr.size:=by simpa [putCells] using h1
 simp only [putCells,Array.getElem_toList,Array.getElem_mapIdx,Nat.zero_add,Nat.zero_le,true_and,Nat.sub_zero]
 by_cases hF:t < d.size
 ·rw [if_pos hF,List.getElem_append_left (by simpa using hF),getElem!_pos d t hF]
  simp
 ·rw [if_neg hF,List.getElem_append_right (by simpa using hF)]
  simp only [List.getElem_drop,Array.getElem_toList,List.length_map,Array.length_toList]
  congr 1;omega
theorem row_heap {w:World} {b:Nat} {arr:Array Value} {te:TypeId} (n:Nat) (d:Array Int) (os:Array Obj) (h:w.heap[b]? = some (.cells arr te (0,0))) :
  (grow (putRow (Value.int .i64) (Go.Sort.ahead w n) b 0 d) os).heap[b]? = some (.cells (putCells (.int .i64) 0 d arr) te (0,0)):=by
 have hb:=(Array.getElem?_eq_some_iff.1 h).1
 unfold grow putRow mapBlock Go.Sort.ahead
 simp only []
 rw [Array.getElem?_append_left (by simpa using hb),Array.getElem?_modify,if_pos rfl]
 rw [h]
 rfl
theorem row_other {w:World} {b b':Nat} (n:Nat) (d:Array Int) (os:Array Obj) (h:b' ≠ b) (hlt:b' < w.heap.size):(grow (putRow (Value.int .i64) (Go.Sort.ahead w n) b 0 d) os).heap[b']? = w.heap[b']? := by
 unfold grow putRow mapBlock Go.Sort.ahead
 simp only []
 rw [Array.getElem?_append_left (by simpa using hlt),Array.getElem?_modify,if_neg (fun e=>h e.symm)]
theorem row_keeps {F:Nat→Prop} {w:World} {I:Cells} {b:Nat} (n:Nat) (d:Array Int) (os:Array Obj) (hF:∀ b',F b'→b' ≠ b∧b' < w.heap.size) (hI:∀ o,¬ I b o) (hin:∀ b' o,I b' o→b' < w.heap.size) (hd:∀ x,w.heap[b]? ≠ some (.deferred x)):Keeps F w I (grow (putRow (Value.int .i64) (Go.Sort.ahead w n) b 0 d) os) I :=
 ⟨rfl,rfl,rfl,by unfold grow putRow mapBlock Go.Sort.ahead;simp,fun b' hb'=>row_other n d os (hF b' hb').1 (hF b' hb').2,⟨fun b' o hi=>⟨hi,by
  have hne:b' ≠ b:=fun e=>hI o (e▸hi)
  simp only [World.cell?, row_other n d os hne (hin b' o hi)]⟩,fun b' x hx=>by
  have hne:b' ≠ b:=fun e=>hd x (e▸hx)
  rw [row_other n d os hne (Array.getElem?_eq_some_iff.1 hx).1];exact hx⟩,fun _ _ _ h=>h,by
  unfold grow putRow mapBlock Go.Sort.ahead
  simp⟩
theorem Ok.sortAll {P:Program} {ρ:Ren} (L:SlLaysN.n53 P ρ) (zs:List Int) (rest:List V) (b cap:Nat) (hsz:zs.length < 4611686018427387904) :
  Ok P (ρ.f 53) [.lit (.slice (some ⟨b,0,none⟩) zs.length cap)] [(b,.c ((zs.map fun z=>.lit (.int .i64 z))++rest))] fun v bs rs =>
   v=.tup []∧bs=[(b,.c (((zs.mergeSort fun x y=>decide (x≤y)).map fun z=>.lit (.int .i64 z))++rest))]∧rs=[]:=by
 intro w I xs hr hH
 obtain rfl:xs=[.slice (some ⟨b,0,none⟩) zs.length cap]:=by
  match xs,hr with
  | [x],hr=>simp only [V.reps,V.rep,and_true] at hr;rw [hr]
  | [],hr=>simp [V.reps] at hr
  | _::_::_,hr=>simp [V.reps] at hr
 obtain⟨arr,te,q1,q2,q3,q4⟩:=hH.bx _ (List.mem_singleton.2 rfl)
 have hblk:b < w.heap.size:=(Array.getElem?_eq_some_iff.1 q1).1
 obtain⟨v1,v2⟩:=vint_rep q3
 have hal:zs.length≤arr.size:=by have:=reps_length q3;simp at this;omega
 have hv:∀ j (h:j < zs.length),arr.toList[j]? = some (.int .i64 zs[j]):=fun j h=>by
  have:(arr.toList.take zs.length)[j]? = some (.int .i64 zs[j]):=by rw [v1];simp [h]
  rwa [List.getElem?_take_of_lt h] at this
 have hHo:Holds (Value.int .i64) w b 0 zs.toArray:=by
  intro j hj
  have hj':j < zs.length:=by simpa using hj
  have h:=hv j hj'
  rw [getElem!_pos _ j hj]
  simp only [Array.getElem?_toList,List.getElem_toArray] at h ⊢
  constructor
  ·simp [World.cell?, q1,h]
  ·simp [World.frozen?, q1]
 refine(AnyG.slices_Sort_int L b 0 cap zs w hHo hblk hsz).mono fun e w' ⟨he,n,os,hw⟩=>?_
 subst hw
 generalize hms:(zs.mergeSort fun x y=>decide (x≤y))=ms
 have hml:ms.length=zs.length:=by rw [← hms,List.length_mergeSort]
 have hK:=row_keeps (w:=w) (b:=b) (I:=I) n ms.toArray os (F:=fun b'=>b' < w.heap.size∧b' ∉ ([(b,B.c ((zs.map fun z=>V.lit (.int .i64 z))++rest))]:List (Nat × B)).map (·.1)) (fun b' hb'=>⟨by simpa using hb'.2,hb'.1⟩) q4 hH.inn (fun x e=>by rw [q1] at e;cases e)
 have harr:=putCells_ints ms.toArray arr (by simpa [hml] using hal)
 refine⟨.tuple #[],.tup [],[(b,.c ((ms.map fun z=>.lit (.int .i64 z))++rest))],[],I,he,by simp only [V.rep];exact⟨#[],rfl,by simp [V.reps]⟩,hK,⟨fun p hp'=>?_,by simp,by simp [blks],fun b' o hi=>Nat.lt_of_lt_of_le (hH.inn b' o hi) hK.size,hH.glob.mono hK.stays⟩,fun b' hb' h=>h.2 (by simpa [blks] using hb'),rfl,rfl,rfl⟩
 rw [List.mem_singleton.1 hp']
 refine⟨_,te,row_heap n ms.toArray os q1,fun x hx=>?_,?_,q4⟩
 ·rw [harr] at hx
  rcases List.mem_append.1 hx with hx | hx
  ·obtain⟨z,_,rfl⟩:=List.mem_map.1 hx
   simp [one]
  ·exact q2 x (List.mem_of_mem_drop hx)
 ·rw [harr]
  refine reps_append (lits_rep ms) (V.reps_mono hK.stays _ _ ?_)
  simpa [hml] using v2
theorem EX_whileQ {C:Ctx} {c:Code} {k:List It} {S:St} {Q:Exit→St→Prop} {α:Type} (hm:C.P.follows .mixedOrders=true) (hk:okCode C.N C.M c=true) (μ:α→Nat) (T:α→St→Prop) (x:α) (h0:LoseP (T x) S)
  (round:∀ x S,T x S→EX C (.code c::.stop (fun S'=>∃ y,μ y < μ x∧LoseP (T y) S')::k) S Q):AWP C (.loop c) S (contQ C k Q):=by
 have lp:∀ {A B:St→Prop} {S},(∀ S,A S→B S)→LoseP A S→LoseP B S:=fun hab ⟨bs,rs,bs',rs',h1,h2,h3,h4,h⟩=>⟨bs,rs,bs',rs',h1,h2,h3,h4,hab _ h⟩
 refine AWP.loopP (fun m S=>∃ x,μ x=m∧T x S) (μ x) (lp (fun S h=>⟨x,rfl,h⟩) h0) fun m S ⟨x,hx,hT⟩=>?_
 subst hx
 refine cwp_spec hm c S _ hk (cwp_mono (fun e S' h'=>?_) (show cwp C c S _ from round x S hT))
 cases e <;> first | exact h' | (obtain⟨y,hy,h'⟩:=h';exact⟨μ y,hy,lp (fun S h=>⟨y,rfl,h⟩) h'⟩)
end Go.VL
set_option linter.unusedSimpArgs false
set_option maxRecDepth 100000
set_option linter.defProp false
namespace Go.Proofs.YtjdggbanifineaaGreat
open Go.VL Go.Ar Go.Proofs.YtjdggbanifineaaGreat Go.Proofs.YtjdggbanifineaaGreat.Arr
def tbGT0:=(aI (aI Ty.t22 (aI Ty.t26 Ty.t28)) (aI (aI Ty.t3 Ty.t30) (aI Ty.t4 Ty.t9)))
theorem swapR_ok {α:Type} {c:α→List V} (hc:∀ x,(c x).length=9) (ho:∀ x,okC (c x)=true) (b cap:Nat) (fv:V) (l:List α) (rest:List V) (P U M W Q:List α) (he:l=P++(U++(M++(W++Q)))) (hU:U.length=W.length) (hl:l.length≤4194304) (_hcap:l.length≤cap) :
  Ok Tryz.prog 155 [.lit (.slice (some ⟨b,0,none⟩) l.length cap),vint P.length,vint ((P.length+U.length+M.length:Nat):Int),vint U.length,fv] [(b,.c ((l.map c).flatten++rest))] fun v bs rs =>
   v=.tup []∧rs=[]∧bs=[(b,.c (((P++(W++(M++(U++Q)))).map c).flatten++rest))]:=by
 refine Ok.of_exM [(3,1)] Ty.mixed Tryz.func155 rfl (by simp [Tryz.ntmps155]) (by kernel_rfl) fun F w0 I0=>?_
 simp only [↓rA,rB,buildOk,nt_is,simprocAttr,tbGT0,Tryz.results155]
 refine EX_for Ty.mixed (by kernel_rfl) U.length (fun i S=>∃ l',l'=P++(W.take i++(U.drop i++(M++(U.take i++(W.drop i++Q)))))∧S.boxes=[(b,.c ((l'.map c).flatten++rest))]∧S.rows=[]∧S.σ 0=.lit (.slice (some ⟨b,0,none⟩) l.length cap)∧S.σ 1=vint P.length∧S.σ 2=vint ((P.length+U.length+M.length:Nat):Int)∧S.σ 3=vint U.length∧S.σ 10=vint i) ⟨0,?_⟩ (fun i S hi ⟨l',hl',gb,gr,g0,g1,g2,g3,g10⟩=>?_) (fun S ⟨l',hl',gb,gr,g0,g1,g2,g3,g10⟩=>?_)
 ·simp only [↓rA,rB,buildOk,nt_is,simprocAttr,tbGT0,Tryz.results155]
  exact⟨l,by simpa using he,rfl⟩
 ·have ll:l.length=P.length+(U.length+(M.length+(W.length+Q.length))):=by rw [he];simp
  have hlen:l'.length=l.length:=by rw [hl',he];simp;omega
  have h1:P.length+i < l'.length:=by omega
  have h2:P.length+U.length+M.length+i < l'.length:=by omega
  have w1:IntKind.i64.wrap ((P.length:Int)+(i:Int))=((P.length+i:Nat):Int):=by rw [wrap_id (by omega) (by omega)];rfl
  have w2:IntKind.i64.wrap (((P.length+U.length+M.length:Nat):Int)+(i:Int))=((P.length+U.length+M.length+i:Nat):Int):=by rw [wrap_id (by omega) (by omega)];rfl
  have w3:=wrap_succ hi (by omega)
  have c1:=get_cells hc l' rest _ h1
  have c2:=get_cells hc l' rest _ h2
  have d1:=left_cells hc l' rest _ h1
  have d2:=left_cells hc l' rest _ h2
  have e1:=room_cells hc l' rest _ h1
  have e2:=room_cells hc l' rest _ h2
  have e3:=set_cells hc l' rest _ h1 (l'[P.length+U.length+M.length+i])
  have e4:=set_cells hc (l'.set (P.length+i) (l'[P.length+U.length+M.length+i])) rest _ (by simpa using h2) (l'[P.length+i])
  have e5:=room_cells hc (l'.set (P.length+i) (l'[P.length+U.length+M.length+i])) rest _ (by simpa using h2)
  have n1:(P.length+i) < l.length:=by omega
  have n2:P.length+U.length+M.length+i < l.length:=by omega
  simp only [↓rA,rB,buildOk,nt_is,simprocAttr,tbGT0,Tryz.results155,gb,gr,g0,g1,g2,g3,g10,Int.ofNat_lt,hi,w1,w2,w3,c1,c2,d1,d2,e1,e2,e3,e4,e5,n1,n2,hc,ho,Int.toNat_natCast,Int.natCast_nonneg]
  refine⟨0,_,?_,rfl⟩
  have hiW:i < W.length:=by omega
  refine(swap_form (A:=P++W.take i) (B:=U.drop (i+1)++(M++U.take i)) (C:=W.drop (i+1)++Q) (x:=U[i]) (y:=W[i]) ?_ ?_ ?_ h1 h2).trans ?_
  ·rw [hl',List.drop_eq_getElem_cons hi,List.drop_eq_getElem_cons hiW];simp only [List.append_assoc,List.cons_append]
  ·simp;omega
  ·simp;omega
  ·rw [List.take_succ_eq_append_getElem hi,List.take_succ_eq_append_getElem hiW];simp only [List.append_assoc,List.cons_append,List.nil_append]
 ·rw [List.take_of_length_le (by omega),List.drop_eq_nil_of_le (Nat.le_refl _),List.take_of_length_le (Nat.le_refl _),List.drop_eq_nil_of_le (by omega)] at hl'
  subst hl'
  simp only [↓rA,rB,buildOk,nt_is,simprocAttr,tbGT0,Tryz.results155,gb,gr,g0,g1,g2,g3,g10,Int.ofNat_lt,Nat.lt_irrefl]
  exact⟨_,[_],[],Le.refl _,List.Sublist.refl _,List.nil_sublist _,rfl,rfl,by simp⟩
abbrev fnG (g:FuncId):V:=.lit (.func (.func g) #[] #[])
def tbGT1:=(aI (aI (aI Ty.t22 Ty.t26) (aI Ty.t28 Ty.t3)) (aI (aI Ty.t30 Ty.t4) (aI Ty.t9 Ty.t99)))
theorem insS_ok {α:Type} {c:α→List V} (hc:∀ x,(c x).length=9) (ho:∀ x,okC (c x)=true) {cf:α→α→Int} (hP:Pre cf) (g:FuncId) (hg:callB Tryz.prog g=true) (hcmp:∀ x y,OkP Tryz.prog g [.agg (c x),.agg (c y)] (vint (cf x y)))
  (b cap:Nat) (l:List α) (rest:List V) (P X Q:List α) (he:l=P++(X++Q)) (hl:l.length≤4194304) (_hcap:l.length≤cap) :
  Ok Tryz.prog 108 [.lit (.slice (some ⟨b,0,none⟩) l.length cap),vint P.length,vint ((P.length+X.length:Nat):Int),fnG g] [(b,.c ((l.map c).flatten++rest))] fun v bs rs =>
   v=.tup []∧rs=[]∧∃ Y,Y.Perm X∧Srt cf Y∧bs=[(b,.c (((P++(Y++Q)).map c).flatten++rest))]:=by
 have ll:l.length=P.length+(X.length+Q.length):=by rw [he];simp
 have w1:=wrap_succ (i:=P.length) (N:=4194305) (by omega) (by omega)
 refine Ok.of_exM [(4,1),(6,1)] Ty.mixed Tryz.func108 rfl (by simp [Tryz.ntmps108]) (by kernel_rfl) fun F w0 I0=>?_
 simp only [↓rA,rB,buildOk,nt_is,simprocAttr,tbGT1,Tryz.results108,w1]
 refine EX_for Ty.mixed (by kernel_rfl) (X.length - 1) (fun t S=>∃ Y,Y.Perm (X.take (t+1))∧Srt cf Y∧S.boxes=[(b,.c (((P++(Y++(X.drop (t+1)++Q))).map c).flatten++rest))]∧S.rows=[]∧S.σ 0=.lit (.slice (some ⟨b,0,none⟩) l.length cap)∧S.σ 1=vint P.length∧S.σ 2=vint ((P.length+X.length:Nat):Int)∧S.σ 3=fnG g∧S.σ 8=vint ((P.length+1+t:Nat):Int)) ⟨0,?_⟩ (fun t S ht ⟨Y,hY,hs,gb,gr,g0,g1,g2,g3,g8⟩=>?_) (fun S ⟨Y,hY,hs,gb,gr,g0,g1,g2,g3,g8⟩=>?_)
 ·simp only [↓rA,rB,buildOk,nt_is,simprocAttr,tbGT1,Tryz.results108]
  cases X with
  | nil=>exact⟨[],by simp,Srt.nil,by rw [he];simp⟩
  | cons x X=>exact⟨[x],by simp,Srt.one x,by rw [he];simp⟩
 ·have hYl:Y.length=t+1:=by rw [hY.length_eq,List.length_take];omega
  have hz:t+1 < X.length:=by omega
  have n1:P.length+1+t < P.length+X.length:=by omega
  have hd:X.drop (t+1)=X[t+1]::X.drop (t+2):=List.drop_eq_getElem_cons hz
  generalize hzz:X[t+1]=z at hd
  rw [hd] at gb
  generalize hR:X.drop (t+2)++Q=R at gb
  have hR':(z::X.drop (t+2))++Q=z::R:=by rw [← hR];rfl
  rw [hR'] at gb
  have w2:=wrap_succ (i:=P.length+1+t) (N:=4194305) (by omega) (by omega)
  have hnext:∀ {Z:List α},Z.Perm (z::Y)→Z.Perm (X.take (t+1+1)):=fun h=>h.trans (by
   rw [List.take_succ_eq_append_getElem hz,hzz]
   exact((List.Perm.cons z hY).trans (List.perm_append_singleton z _).symm))
  simp only [↓rA,rB,buildOk,nt_is,simprocAttr,tbGT1,Tryz.results108,gb,gr,g0,g1,g2,g3,g8,Int.ofNat_lt,n1]
  refine EX_while Ty.mixed (by kernel_rfl) (fun x=>x.1.length) (fun(x:List α × List α) S=>x.1++x.2=Y∧(∀ y ∈ x.2,cf z y≤0)∧S.boxes=[(b,.c (((P++(x.1++z::(x.2++R))).map c).flatten++rest))]∧S.rows=[]∧S.σ 0=.lit (.slice (some ⟨b,0,none⟩) l.length cap)∧S.σ 1=vint P.length∧S.σ 2=vint ((P.length+X.length:Nat):Int)∧S.σ 3=fnG g∧S.σ 8=vint ((P.length+1+t:Nat):Int)∧S.σ 9=vint ((P.length+x.1.length:Nat):Int)) (Y,[]) ⟨0,?_⟩ (fun⟨S1,S2⟩ S ⟨h1,h2,gb,gr,g0,g1,g2,g3,g8,g9⟩=>?_)
  ·have e9:P.length+Y.length=P.length+1+t:=by omega
   simp only [↓rA,rB,buildOk,nt_is,simprocAttr,tbGT1,Tryz.results108,gb,gr,g0,g1,g2,g3,g8,e9]
   exact fun _ h=>absurd h List.not_mem_nil
  ·simp only at h1 h2 gb g9 ⊢
   have lS:S1.length+S2.length=Y.length:=by rw [← h1];simp
   rcases List.eq_nil_or_concat S1 with e | ⟨S1',y,e⟩
   ·subst e
    have hp:P.length+([]:List α).length=P.length:=rfl
    rw [hp] at g9
    simp only [↓rA,rB,buildOk,nt_is,simprocAttr,tbGT1,Tryz.results108,gb,gr,g0,g1,g2,g3,g8,g9,Int.ofNat_lt,Nat.lt_irrefl,w2]
    have hall:Srt cf (z::S2):=List.pairwise_cons.2 ⟨h2,by rw [← h1] at hs;exact hs⟩
    refine⟨0,z::S2,hnext (by simpa using h1▸List.Perm.refl _),hall,?_,by rw [Nat.add_assoc (P.length+1)]⟩
    rw [← hR]
    simp only [List.drop_zero,List.nil_append,List.cons_append,List.append_assoc]
   ·subst e
    have n2:P.length < P.length+(S1'++[y]).length:=by simp
    generalize hl':P++(S1'.concat y++z::(S2++R))=l' at gb
    rw [List.concat_eq_append] at *
    have hj:P.length+(S1'++[y]).length < l'.length:=by rw [← hl'];simp
    have hj1:P.length+S1'.length < l'.length:=by rw [← hl'];simp
    have w3:IntKind.i64.wrap (((P.length+(S1'++[y]).length:Nat):Int) - 1)=((P.length+S1'.length:Nat):Int):=by
     rw [List.length_append,List.length_singleton] at *
     rw [wrap_id (by omega) (by omega)]
     omega
    have c1:=get_cells hc l' rest _ hj
    have c2:=get_cells hc l' rest _ hj1
    have d1:=left_cells hc l' rest _ hj
    have d2:=left_cells hc l' rest _ hj1
    have e1:=room_cells hc l' rest _ hj
    have e2:=room_cells hc l' rest _ hj1
    have hlen:l'.length=l.length:=by
     rw [← hl',he]
     have:=hY.length_eq
     rw [List.length_take] at this
     simp at this lS ⊢
     rw [← hR]
     simp
     omega
    have n3:P.length+(S1'++[y]).length < l.length:=by omega
    have n4:P.length+S1'.length < l.length:=by omega
    have hform:l'=(P++S1')++y::([]++z::(S2++R)):=by rw [← hl'];simp
    have x1:l'[P.length+(S1'++[y]).length]=z:=get_form (A:=P++(S1'++[y])) (C:=S2++R) (by rw [hform];simp) (by simp) hj
    have x2:l'[P.length+S1'.length]=y:=get_form (A:=P++S1') hform (by simp) hj1
    have hsw:=swap_form' hform (i:=P.length+(S1'++[y]).length) (j:=P.length+S1'.length) (by simp;omega) (by simp) hj hj1
    rw [x1,x2] at hsw
    have e3:=set_cells hc l' rest _ hj y
    have e4:=set_cells hc (l'.set (P.length+(S1'++[y]).length) y) rest _ (by simpa using hj1) z
    have e5:=room_cells hc (l'.set (P.length+(S1'++[y]).length) y) rest _ (show P.length+S1'.length < _ by simpa using hj1)
    rw [hsw] at e4
    rw [x1] at c1
    rw [x2] at c2
    simp only [↓rA,rB,buildOk,nt_is,simprocAttr,tbGT1,Tryz.results108,gb,gr,g0,g1,g2,g3,g8,g9,Int.ofNat_lt,n2,w3,c1,c2,d1,d2,e1,e2,n3,n4,Int.toNat_natCast,Int.natCast_nonneg,hg]
    refine CallV_of _ (hcmp z y).v ?_
    by_cases hlt:cf z y < 0
    ·simp only [↓rA,rB,buildOk,nt_is,simprocAttr,tbGT1,Tryz.results108,gb,gr,g0,g1,g2,g3,g8,g9,Int.ofNat_lt,n2,w3,c1,c2,d1,d2,e1,e2,e3,e4,e5,n3,n4,Int.toNat_natCast,Int.natCast_nonneg,hg,hlt,hc,ho]
     refine⟨(S1',y::S2),by simp,0,by rw [← h1];simp,fun q hq=>?_,?_,rfl⟩
     ·rcases List.mem_cons.1 hq with rfl | hq
      ·omega
      ·exact h2 q hq
     ·simp only [List.drop_zero,List.nil_append,List.cons_append,List.append_assoc]
    ·simp only [↓rA,rB,buildOk,nt_is,simprocAttr,tbGT1,Tryz.results108,gb,gr,g0,g1,g2,g3,g8,g9,Int.ofNat_lt,n2,w2,w3,c1,c2,d1,d2,e1,e2,n3,n4,Int.toNat_natCast,Int.natCast_nonneg,hg,hlt]
     have hmid:Srt cf ((S1'++[y])++z::S2):=srt_mid (by rw [h1];exact hs) (Srt.mid_l hP (by rw [← h1] at hs;exact hs.left) (.inr ⟨S1',y,rfl,hP.le_of_not hlt⟩)) h2
     refine⟨0,(S1'++[y])++z::S2,hnext (List.perm_middle.trans (by rw [h1])),hmid,?_,by rw [Nat.add_assoc (P.length+1)]⟩
     rw [← hl',← hR]
     simp only [List.drop_zero,List.nil_append,List.cons_append,List.append_assoc]
 ·have hx:X.take (X.length - 1+1)=X:=List.take_of_length_le (by omega)
  have hx':X.drop (X.length - 1+1)=[]:=List.drop_eq_nil_of_le (by omega)
  rw [hx] at hY
  rw [hx'] at gb
  have n5:¬ P.length+1+(X.length - 1) < P.length+X.length:=by omega
  simp only [↓rA,rB,buildOk,nt_is,simprocAttr,tbGT1,Tryz.results108,gb,gr,g0,g1,g2,g3,g8,Int.ofNat_lt,n5]
  exact⟨_,[_],[],Le.refl _,List.Sublist.refl _,List.nil_sublist _,rfl,rfl,Y,hY,hs,by simp only [List.nil_append]⟩
end Go.Proofs.YtjdggbanifineaaGreat
set_option linter.unusedSimpArgs false
set_option maxRecDepth 100000
set_option linter.defProp false
namespace Go.Proofs.YtjdggbanifineaaGreat
open Go.VL Go.Ar Go.Proofs.YtjdggbanifineaaGreat Go.Proofs.YtjdggbanifineaaGreat.Arr
def tbGU0:=(aI (aI (aI Ty.c155 Ty.t22) (aI Ty.t26 Ty.t28)) (aI (aI Ty.t3 Ty.t30) (aI Ty.t4 (aI Ty.t9 Ty.t99))))
theorem rotate_ok {α:Type} {c:α→List V} (hc:∀ x,(c x).length=9) (ho:∀ x,okC (c x)=true) (b cap:Nat) (fv:V) (l:List α) (rest:List V) (P U W Q:List α) (he:l=P++(U++(W++Q))) (hU:U ≠ []) (hW:W ≠ []) (hl:l.length≤4194304) (hcap:l.length≤cap) :
  Ok Tryz.prog 129 [.lit (.slice (some ⟨b,0,none⟩) l.length cap),vint P.length,vint ((P.length+U.length:Nat):Int),vint ((P.length+U.length+W.length:Nat):Int),fv] [(b,.c ((l.map c).flatten++rest))] fun v bs rs =>
   v=.tup []∧rs=[]∧bs=[(b,.c (((P++(W++(U++Q))).map c).flatten++rest))]:=by
 have ll:l.length=P.length+(U.length+(W.length+Q.length)):=by rw [he];simp
 have w1:IntKind.i64.wrap (((P.length+U.length:Nat):Int) - (P.length:Int))=((U.length:Nat):Int):=by rw [wrap_id (by omega) (by omega)];omega
 have w2:IntKind.i64.wrap (((P.length+U.length+W.length:Nat):Int) - ((P.length+U.length:Nat):Int))=((W.length:Nat):Int):=by rw [wrap_id (by omega) (by omega)];omega
 have hU0:0 < U.length:=List.length_pos_iff.2 hU
 have hW0:0 < W.length:=List.length_pos_iff.2 hW
 refine Ok.of_ex Ty.mixed Tryz.func129 rfl (by simp [Tryz.ntmps129]) (by kernel_rfl) fun F w0 I0=>?_
 simp only [↓rA,rB,buildOk,nt_is,simprocAttr,tbGU0,Tryz.results129,w1,w2]
 refine EX_while Ty.mixed (by kernel_rfl) (fun x=>x.2.1.length+x.2.2.1.length) (fun(x:List α × List α × List α × List α) S=>x.1++(x.2.2.1++(x.2.1++x.2.2.2))=W++U∧x.2.1 ≠ []∧x.2.2.1 ≠ []∧x.1.length+x.2.1.length=U.length∧S.boxes=[(b,.c (((P++(x.1++(x.2.1++(x.2.2.1++(x.2.2.2++Q))))).map c).flatten++rest))]∧S.rows=[]∧S.σ 0=.lit (.slice (some ⟨b,0,none⟩) l.length cap)∧S.σ 1=vint P.length∧S.σ 2=vint ((P.length+U.length:Nat):Int)∧S.σ 4=fv∧S.σ 10=vint x.2.1.length∧S.σ 11=vint x.2.2.1.length) ([],U,W,[]) ⟨0,?_⟩ (fun⟨A,u,w,Z⟩ S ⟨h1,hu,hw,h2,gb,gr,g0,g1,g2,g4,g10,g11⟩=>?_)
 ·simp only [↓rA,rB,buildOk,nt_is,simprocAttr,tbGU0,Tryz.results129]
  exact⟨hU,hW,by rw [he]⟩
 ·simp only at h1 hu hw h2 gb g10 g11 ⊢
  have hl1:A.length+(w.length+(u.length+Z.length))=W.length+U.length:=by have:=congrArg List.length h1;simpa using this
  have hu0:0 < u.length:=List.length_pos_iff.2 hu
  have hw0:0 < w.length:=List.length_pos_iff.2 hw
  have w3:IntKind.i64.wrap (((P.length+U.length:Nat):Int) - ((u.length:Nat):Int))=(((P++A).length:Nat):Int):=by rw [wrap_id (by omega) (by omega),List.length_append];omega
  have hlen:(P++(A++(u++(w++(Z++Q))))).length=l.length:=by simp;omega
  by_cases heq:u.length=w.length
  ·simp only [↓rA,rB,buildOk,nt_is,simprocAttr,tbGU0,Tryz.results129,gb,gr,g0,g1,g2,g4,g10,g11,heq]
   rw [heq] at w3
   simp only [↓rA,rB,buildOk,nt_is,simprocAttr,tbGU0,Tryz.results129,gb,gr,g0,g1,g2,g4,g10,g11,heq,w3]
   rw [← hlen]
   refine OkF_with [_] [] (List.Perm.refl _) (?_:Ok _ _ _ _ (fun v bs rs=>v=.tup []∧rs=[]∧bs=[(b,.c (((P++(A++(w++(u++(Z++Q))))).map c).flatten++rest))])) ?_
   ·have:=swapR_ok hc ho b cap fv (P++(A++(u++(w++(Z++Q))))) rest (P++A) u [] w (Z++Q) (by simp) heq (by omega) (by omega)
    have e:(P++A).length+u.length+([]:List α).length=P.length+U.length:=by simp;omega
    rw [e,heq] at this
    simpa only [List.append_assoc,List.nil_append] using this
   rintro v bs rs ⟨rfl,rfl,rfl⟩
   simp only [↓rA,rB,buildOk,nt_is,simprocAttr,tbGU0,Tryz.results129]
   have hfin:W++(U++Q)=A++(w++(u++(Z++Q))):=by rw [← List.append_assoc W,← h1];simp
   rw [hfin]
   exact⟨_,[_],[],Le.refl _,List.Sublist.refl _,List.nil_sublist _,rfl,rfl,rfl⟩
  ·have hne:¬ ((u.length:Int)=(w.length:Int)):=by omega
   by_cases hgt:w.length < u.length
   ·obtain⟨u1,u2,rfl,hu1⟩:∃ u1 u2,u=u1++u2∧u1.length=w.length:=⟨u.take w.length,u.drop w.length,(List.take_append_drop _ _).symm,by rw [List.length_take];omega⟩
    have lu:(u1++u2).length=u1.length+u2.length:=List.length_append
    have w4:IntKind.i64.wrap ((((u1++u2).length:Nat):Int) - (w.length:Int))=((u2.length:Nat):Int):=by rw [wrap_id (by omega) (by omega)];omega
    simp only [↓rA,rB,buildOk,nt_is,simprocAttr,tbGU0,Tryz.results129,gb,gr,g0,g1,g2,g4,g10,g11,hne,Int.ofNat_lt,hgt,w3,w4]
    rw [← hlen]
    refine OkF_with [_] [] (List.Perm.refl _) (?_:Ok _ _ _ _ (fun v bs rs=>v=.tup []∧rs=[]∧bs=[(b,.c (((P++((A++w)++(u2++(u1++(Z++Q))))).map c).flatten++rest))])) ?_
    ·have:=swapR_ok hc ho b cap fv (P++(A++((u1++u2)++(w++(Z++Q))))) rest (P++A) u1 u2 w (Z++Q) (by simp) hu1 (by omega) (by omega)
     have e:(P++A).length+u1.length+u2.length=P.length+U.length:=by simp;omega
     rw [e,hu1] at this
     simpa only [List.append_assoc,List.nil_append] using this
    rintro v bs rs ⟨rfl,rfl,rfl⟩
    simp only [↓rA,rB,buildOk,nt_is,simprocAttr,tbGU0,Tryz.results129,gb,gr,g0,g1,g2,g4,g10,g11,hne,Int.ofNat_lt,hgt,w3,w4]
    rw [hlen]
    refine⟨(A++w,u2,u1,Z),by simp only;omega,0,by rw [← h1];simp,?_,?_,by simp;omega,?_⟩
    ·exact List.length_pos_iff.1 (by show 0 < u2.length;omega)
    ·exact List.length_pos_iff.1 (by show 0 < u1.length;omega)
    ·exact⟨rfl,rfl,rfl,by rw [← hu1]⟩
   ·have hlt:u.length < w.length:=by omega
    obtain⟨v1,v2,rfl,hv2⟩:∃ v1 v2,w=v1++v2∧v2.length=u.length:=⟨w.take (w.length - u.length),w.drop (w.length - u.length),(List.take_append_drop _ _).symm,by rw [List.length_drop];omega⟩
    have lv:(v1++v2).length=v1.length+v2.length:=List.length_append
    have lp:(P++A).length=P.length+A.length:=List.length_append
    have w4:IntKind.i64.wrap ((((v1++v2).length:Nat):Int) - (u.length:Int))=((v1.length:Nat):Int):=by rw [wrap_id (by omega) (by omega)];omega
    have w5:IntKind.i64.wrap (((P.length+U.length:Nat):Int)+(((v1++v2).length:Nat):Int))=((P.length+U.length+(v1++v2).length:Nat):Int):=by rw [wrap_id (by omega) (by omega)];omega
    have w6:IntKind.i64.wrap (((P.length+U.length+(v1++v2).length:Nat):Int) - (u.length:Int))=(((P++A).length+u.length+v1.length:Nat):Int):=by rw [wrap_id (by omega) (by omega)];omega
    simp only [↓rA,rB,buildOk,nt_is,simprocAttr,tbGU0,Tryz.results129,gb,gr,g0,g1,g2,g4,g10,g11,hne,Int.ofNat_lt,hgt,w3,w4,w5,w6]
    rw [← hlen]
    refine OkF_with [_] [] (List.Perm.refl _) (?_:Ok _ _ _ _ (fun v bs rs=>v=.tup []∧rs=[]∧bs=[(b,.c (((P++(A++(v2++(v1++((u++Z)++Q))))).map c).flatten++rest))])) ?_
    ·have:=swapR_ok hc ho b cap fv (P++(A++(u++((v1++v2)++(Z++Q))))) rest (P++A) u v1 v2 (Z++Q) (by simp) hv2.symm (by omega) (by omega)
     simpa only [List.append_assoc,List.nil_append] using this
    rintro v bs rs ⟨rfl,rfl,rfl⟩
    simp only [↓rA,rB,buildOk,nt_is,simprocAttr,tbGU0,Tryz.results129,gb,gr,g0,g1,g2,g4,g10,g11,hne,Int.ofNat_lt,hgt,w3,w4,w5,w6]
    rw [hlen]
    refine⟨(A,v2,v1,u++Z),by simp only;omega,0,by rw [← h1];simp,?_,?_,by simp;omega,?_⟩
    ·exact List.length_pos_iff.1 (by show 0 < v2.length;omega)
    ·exact List.length_pos_iff.1 (by show 0 < v1.length;omega)
    ·exact⟨rfl,rfl,by rw [← hv2],rfl⟩
def LoS {α:Type} (cf:α→α→Int) (U W:List α) (a M s0 s:Nat):Prop:=s=s0∨a < s∧∃ (h1:s - 1 - a < U.length) (h2:M - s < W.length),cf U[s - 1 - a] W[M - s]≤0
def HiS {α:Type} (cf:α→α→Int) (U W:List α) (a M r0 s:Nat):Prop:=s=r0∨s < M∧∃ (h1:s - a < U.length) (h2:M - s - 1 < W.length),cf W[M - s - 1] U[s - a] < 0
theorem half_wrap {i j:Nat} (h:i+j≤9000000):IntKind.i64.wrap ((i:Int)+(j:Int))=((i+j:Nat):Int):=by rw [wrap_id (by omega) (by omega)];rfl
def tbGU1:=(aI (aI (aI Ty.c109 Ty.c129) (aI Ty.t113 (aI Ty.t22 Ty.t26))) (aI (aI Ty.t28 (aI Ty.t3 Ty.t30)) (aI Ty.t4 (aI Ty.t9 Ty.t99))))
set_option maxHeartbeats 2000000 in
theorem symM_ok {α:Type} {c:α→List V} (hc:∀ x,(c x).length=9) (ho:∀ x,okC (c x)=true) {cf:α→α→Int} (hP:Pre cf) (g:FuncId) (hg:callB Tryz.prog g=true) (hcmp:∀ x y,OkP Tryz.prog g [.agg (c x),.agg (c y)] (vint (cf x y))) (b cap:Nat) (rest:List V):∀ (n:Nat) (l P U W Q:List α),
  U.length+W.length≤n→l=P++(U++(W++Q))→U ≠ []→W ≠ []→Srt cf U→Srt cf W→l.length≤4194304→l.length≤cap →
  Ok Tryz.prog 109 [.lit (.slice (some ⟨b,0,none⟩) l.length cap),vint P.length,vint ((P.length+U.length:Nat):Int),vint ((P.length+U.length+W.length:Nat):Int),fnG g] [(b,.c ((l.map c).flatten++rest))] fun v bs rs =>
   v=.tup []∧rs=[]∧∃ Y,Y.Perm (U++W)∧Srt cf Y∧bs=[(b,.c (((P++(Y++Q)).map c).flatten++rest))]:=by
 intro n
 induction n with
 | zero =>
  intro l P U W Q hn _ hU
  exact absurd (List.length_eq_zero_iff.1 (by omega)) hU
 | succ n ih =>
 intro l P U W Q hn he hU hW sU sW hl hcap
 have ll:l.length=P.length+(U.length+(W.length+Q.length)):=by rw [he];simp
 have hU0:0 < U.length:=List.length_pos_iff.2 hU
 have hW0:0 < W.length:=List.length_pos_iff.2 hW
 have w1:IntKind.i64.wrap (((P.length+U.length:Nat):Int) - (P.length:Int))=((U.length:Nat):Int):=by rw [wrap_id (by omega) (by omega)];omega
 have w2:IntKind.i64.wrap (((P.length+U.length+W.length:Nat):Int) - ((P.length+U.length:Nat):Int))=((W.length:Nat):Int):=by rw [wrap_id (by omega) (by omega)];omega
 refine Ok.of_exM [(5,1),(11,1),(17,1),(23,1),(35,1)] Ty.mixed Tryz.func109 rfl (by simp [Tryz.ntmps109]) (by kernel_rfl) fun F w0 I0=>?_
 by_cases h1:U.length=1
 ·obtain⟨u,rfl⟩:=List.length_eq_one_iff.1 h1
  simp only [List.length_singleton] at *
  have h1':((1:Nat):Int)=1:=rfl
  simp only [↓rA,rB,buildOk,nt_is,simprocAttr,tbGU1,Tryz.results109,w1,h1']
  refine EX_while Ty.mixed (by kernel_rfl) (fun x=>x.2 - x.1) (fun(x:Nat × Nat) S=>(x.1≤x.2∧x.2≤W.length∧(∀ t (h:t < W.length),t+1=x.1→cf W[t] u≤0)∧(∀ (h:x.2 < W.length),cf u W[x.2]≤0))∧S.boxes=[(b,.c ((l.map c).flatten++rest))]∧S.rows=[]∧S.σ 0=.lit (.slice (some ⟨b,0,none⟩) l.length cap)∧S.σ 1=vint P.length∧S.σ 4=fnG g∧S.σ 10=vint ((P.length+1+x.1:Nat):Int)∧S.σ 11=vint ((P.length+1+x.2:Nat):Int)) (0,W.length) ⟨0,?_⟩ (fun⟨i,k⟩ S ⟨⟨hik,hk,hlo,hhi⟩,gb,gr,g0,g1,g4,g10,g11⟩=>?_)
  ·simp only [↓rA,rB,buildOk,nt_is,simprocAttr,tbGU1,Tryz.results109]
   exact⟨fun t h (hf:False)=>hf.elim,fun h=>absurd h (Nat.lt_irrefl _)⟩
  ·simp only at hik hk hlo hhi g10 g11 ⊢
   by_cases hlt:i < k
   ·have hh:(P.length+1+i+(P.length+1+k)) / 2=P.length+1+(i+k) / 2:=by omega
    generalize hhd:(i+k) / 2=h at hh
    have hm:=mid_eq (i:=P.length+1+i) (k:=P.length+1+k) (by omega) (by omega)
    rw [hh] at hm
    have hW:h < W.length:=by omega
    have n1:P.length+1+i < P.length+1+k:=by omega
    have hi1:P.length+1+h < l.length:=by omega
    have hi2:P.length < l.length:=by omega
    have c1:=get_cells hc l rest _ hi1
    have c2:=get_cells hc l rest _ hi2
    rw [get_mid (A:=P++[u]) (B:=W) (C:=Q) (by rw [he];simp) (t:=h) (by simp) hW hi1] at c1
    rw [get_form (A:=P) (C:=W++Q) (x:=u) (by rw [he];rfl) rfl hi2] at c2
    have d1:=left_cells hc l rest _ hi1
    have d2:=left_cells hc l rest _ hi2
    simp only [↓rA,rB,buildOk,nt_is,simprocAttr,tbGU1,Tryz.results109,gb,gr,g0,g1,g4,g10,g11,Int.ofNat_lt,n1,hm,hi1,hi2,c1,c2,d1,d2,Int.toNat_natCast,Int.natCast_nonneg,hg]
    refine CallV_of _ (hcmp W[h] u).v ?_
    by_cases hc0:cf W[h] u < 0
    ·have w5:IntKind.i64.wrap (((P.length+1+h:Nat):Int)+1)=((P.length+1+(h+1):Nat):Int):=by rw [wrap_id (by omega) (by omega)];omega
     simp only [↓rA,rB,buildOk,nt_is,simprocAttr,tbGU1,Tryz.results109,gb,gr,g0,g1,g4,g10,g11,hm,hc0,w5]
     refine⟨(h+1,k),by simp only;omega,0,⟨by simp only;omega,hk,fun t ht e=>?_,hhi⟩,rfl,rfl,rfl⟩
     obtain rfl:t=h:=by simp only at e;omega
     omega
    ·simp only [↓rA,rB,buildOk,nt_is,simprocAttr,tbGU1,Tryz.results109,gb,gr,g0,g1,g4,g10,g11,hm,hc0]
     refine⟨(i,h),by simp only;omega,0,⟨by simp only;omega,by simp only;omega,hlo,fun _=>hP.le_of_not hc0⟩,rfl,rfl,rfl⟩
   ·obtain rfl:i=k:=by omega
    have w5:IntKind.i64.wrap (((P.length+1+i:Nat):Int) - 1)=((P.length+i:Nat):Int):=by rw [wrap_id (by omega) (by omega)];omega
    simp only [↓rA,rB,buildOk,nt_is,simprocAttr,tbGU1,Tryz.results109,gb,gr,g0,g1,g4,g10,g11,Int.ofNat_lt,Nat.lt_irrefl]
    refine EX_for Ty.mixed (by kernel_rfl) i (fun t S=>∃ l',l'=(P++W.take t)++u::(W.drop t++Q)∧S.boxes=[(b,.c ((l'.map c).flatten++rest))]∧S.rows=[]∧S.σ 0=.lit (.slice (some ⟨b,0,none⟩) l.length cap)∧S.σ 10=vint ((P.length+1+i:Nat):Int)∧S.σ 13=vint ((P.length+t:Nat):Int)) ⟨0,?_⟩ (fun t S ht ⟨l',hl',gb,gr,g0,g10,g13⟩=>?_) (fun S ⟨l',hl',gb,gr,g0,g10,g13⟩=>?_)
    ·simp only [↓rA,rB,buildOk,nt_is,simprocAttr,tbGU1,Tryz.results109,gb,gr,g0,g1,g4,g10,g11]
     exact⟨l,by rw [he];simp,rfl⟩
    ·have htW:t < W.length:=by omega
     have hform:l'=(P++W.take t)++u::([]++W[t]::(W.drop (t+1)++Q)):=by rw [hl',List.drop_eq_getElem_cons htW];rfl
     have lt:(P++W.take t).length=P.length+t:=by rw [List.length_append,List.length_take];omega
     have hlen:l'.length=l.length:=by rw [hl',List.length_append,lt];simp;omega
     have hj:P.length+t < l'.length:=by omega
     have hj1:P.length+t+1 < l'.length:=by omega
     have n1:P.length+t < P.length+i:=by omega
     have n2:P.length+t < l.length:=by omega
     have n3:P.length+t+1 < l.length:=by omega
     have w6:=wrap_succ (i:=P.length+t) (N:=4500000) (by omega) (by omega)
     have x1:l'[P.length+t]=u:=get_form (A:=P++W.take t) hform lt.symm hj
     have x2:l'[P.length+t+1]=W[t]:=get_form (A:=P++W.take t++[u]) (C:=W.drop (t+1)++Q) (by rw [hform];simp only [List.append_assoc,List.cons_append,List.nil_append]) (by rw [List.length_append,lt];rfl) hj1
     have hsw:=swap_form hform (i:=P.length+t) (j:=P.length+t+1) lt.symm (by rw [lt];rfl) hj hj1
     rw [x1,x2] at hsw
     have c1:=get_cells hc l' rest _ hj
     have c2:=get_cells hc l' rest _ hj1
     rw [x1] at c1
     rw [x2] at c2
     have d1:=left_cells hc l' rest _ hj
     have d2:=left_cells hc l' rest _ hj1
     have e1:=room_cells hc l' rest _ hj
     have e3:=set_cells hc l' rest _ hj W[t]
     have e4:=set_cells hc (l'.set (P.length+t) W[t]) rest _ (show P.length+t+1 < _ by simpa using hj1) u
     have e5:=room_cells hc (l'.set (P.length+t) W[t]) rest _ (show P.length+t+1 < _ by simpa using hj1)
     rw [hsw] at e4
     simp only [↓rA,rB,buildOk,nt_is,simprocAttr,tbGU1,Tryz.results109,gb,gr,g0,g10,g13,Int.ofNat_lt,n1,n2,n3,w5,w6,c1,c2,d1,d2,e1,e3,e4,e5,hc,ho,Int.toNat_natCast,Int.natCast_nonneg]
     refine⟨0,_,?_,rfl,rfl⟩
     rw [List.take_succ_eq_append_getElem htW]
     simp only [List.append_assoc,List.cons_append,List.nil_append]
    ·subst hl'
     simp only [↓rA,rB,buildOk,nt_is,simprocAttr,tbGU1,Tryz.results109,gb,gr,g0,g10,g13,Int.ofNat_lt,Nat.lt_irrefl,w5]
     refine⟨_,[_],[],Le.refl _,List.Sublist.refl _,List.nil_sublist _,rfl,rfl,W.take i++u::W.drop i,?_,?_,by simp only [List.append_assoc,List.cons_append,List.nil_append]⟩
     ·exact List.perm_middle.trans (by rw [List.take_append_drop])
     ·have hsp:Srt cf (W.take i++W.drop i):=by rw [List.take_append_drop];exact sW
      refine srt_mid hsp (hsp.left.mid_l hP ?_) (hsp.right.mid_r hP ?_)
      ·cases i with
       | zero=>exact .inl rfl
       | succ i=>exact .inr ⟨W.take i,W[i]'(by omega),List.take_succ_eq_append_getElem (by omega),hlo i (by omega) rfl⟩
      ·rcases Nat.lt_or_ge i W.length with h' | h'
       ·exact .inr ⟨W[i],W.drop (i+1),List.drop_eq_getElem_cons h',hhi h'⟩
       ·exact .inl (List.drop_eq_nil_of_le h')
 ·have h1':¬ ((U.length:Nat):Int)=1:=by omega
  by_cases h2:W.length=1
  ·have h2':((W.length:Nat):Int)=1:=by omega
   obtain⟨w,rfl⟩:=List.length_eq_one_iff.1 h2
   simp only [List.length_singleton] at *
   simp only [↓rA,rB,buildOk,nt_is,simprocAttr,tbGU1,Tryz.results109,w1,h1',w2,h2']
   refine EX_while Ty.mixed (by kernel_rfl) (fun x=>x.2 - x.1) (fun(x:Nat × Nat) S=>(x.1≤x.2∧x.2≤U.length∧(∀ t (h:t < U.length),t+1=x.1→cf U[t] w≤0)∧(∀ (h:x.2 < U.length),cf w U[x.2]≤0))∧S.boxes=[(b,.c ((l.map c).flatten++rest))]∧S.rows=[]∧S.σ 0=.lit (.slice (some ⟨b,0,none⟩) l.length cap)∧S.σ 2=vint ((P.length+U.length:Nat):Int)∧S.σ 4=fnG g∧S.σ 14=vint ((P.length+x.1:Nat):Int)∧S.σ 15=vint ((P.length+x.2:Nat):Int)) (0,U.length) ⟨0,?_⟩ (fun⟨i,k⟩ S ⟨⟨hik,hk,hlo,hhi⟩,gb,gr,g0,g2,g4,g14,g15⟩=>?_)
   ·simp only [↓rA,rB,buildOk,nt_is,simprocAttr,tbGU1,Tryz.results109]
    exact⟨fun t h (hf:False)=>hf.elim,fun h=>absurd h (Nat.lt_irrefl _)⟩
   ·simp only at hik hk hlo hhi g14 g15 ⊢
    by_cases hlt:i < k
    ·have hh:(P.length+i+(P.length+k)) / 2=P.length+(i+k) / 2:=by omega
     generalize hhd:(i+k) / 2=h at hh
     have hm:=mid_eq (i:=P.length+i) (k:=P.length+k) (by omega) (by omega)
     rw [hh] at hm
     have hW:h < U.length:=by omega
     have n1:P.length+i < P.length+k:=by omega
     have hi1:P.length+h < l.length:=by omega
     have hi2:P.length+U.length < l.length:=by omega
     have c1:=get_cells hc l rest _ hi1
     have c2:=get_cells hc l rest _ hi2
     rw [get_mid (A:=P) (B:=U) (C:=[w]++Q) he (t:=h) rfl hW hi1] at c1
     rw [get_form (A:=P++U) (C:=Q) (x:=w) (by rw [he];simp) (by simp) hi2] at c2
     have d1:=left_cells hc l rest _ hi1
     have d2:=left_cells hc l rest _ hi2
     simp only [↓rA,rB,buildOk,nt_is,simprocAttr,tbGU1,Tryz.results109,gb,gr,g0,g2,g4,g14,g15,Int.ofNat_lt,n1,hm,hi1,hi2,c1,c2,d1,d2,Int.toNat_natCast,Int.natCast_nonneg,hg]
     refine CallV_of _ (hcmp w U[h]).v ?_
     by_cases hc0:cf w U[h] < 0
     ·simp only [↓rA,rB,buildOk,nt_is,simprocAttr,tbGU1,Tryz.results109,gb,gr,g0,g2,g4,g14,g15,hm,hc0]
      refine⟨(i,h),by simp only;omega,0,⟨by simp only;omega,by simp only;omega,hlo,fun _=>by simp only;omega⟩,rfl,rfl,rfl⟩
     ·have w5:IntKind.i64.wrap (((P.length+h:Nat):Int)+1)=((P.length+(h+1):Nat):Int):=by rw [wrap_id (by omega) (by omega)];omega
      simp only [↓rA,rB,buildOk,nt_is,simprocAttr,tbGU1,Tryz.results109,gb,gr,g0,g2,g4,g14,g15,hm,hc0,w5]
      refine⟨(h+1,k),by simp only;omega,0,⟨by simp only;omega,hk,fun t ht e=>?_,hhi⟩,rfl,rfl,rfl⟩
      obtain rfl:t=h:=by simp only at e;omega
      exact hP.le_of_not hc0
    ·obtain rfl:i=k:=by omega
     simp only [↓rA,rB,buildOk,nt_is,simprocAttr,tbGU1,Tryz.results109,gb,gr,g0,g2,g4,g14,g15,Int.ofNat_lt,Nat.lt_irrefl]
     refine EX_for Ty.mixed (by kernel_rfl) (U.length - i) (fun t S=>∃ l',l'=(P++U.take (U.length - t))++w::(U.drop (U.length - t)++Q)∧S.boxes=[(b,.c ((l'.map c).flatten++rest))]∧S.rows=[]∧S.σ 0=.lit (.slice (some ⟨b,0,none⟩) l.length cap)∧S.σ 14=vint ((P.length+i:Nat):Int)∧S.σ 17=vint ((P.length+(U.length - t):Nat):Int)) ⟨0,?_⟩ (fun t S ht ⟨l',hl',gb,gr,g0,g14,g17⟩=>?_) (fun S ⟨l',hl',gb,gr,g0,g14,g17⟩=>?_)
     ·simp only [↓rA,rB,buildOk,nt_is,simprocAttr,tbGU1,Tryz.results109,gb,gr,g0,g2,g4,g14,g15]
      exact⟨l,by rw [he];simp,rfl⟩
     ·obtain⟨r,hr⟩:∃ r,U.length - t=r+1:=⟨U.length - t - 1,by omega⟩
      have hr1:U.length - (t+1)=r:=by omega
      rw [hr] at hl' g17
      rw [hr1]
      have htW:r < U.length:=by omega
      have hform:l'=(P++U.take r)++U[r]::([]++w::(U.drop (r+1)++Q)):=by rw [hl',List.take_succ_eq_append_getElem htW];simp only [List.append_assoc,List.cons_append,List.nil_append]
      have lt:(P++U.take r).length=P.length+r:=by rw [List.length_append,List.length_take];omega
      have hlen:l'.length=l.length:=by rw [hform,List.length_append,lt];simp;omega
      have hj:P.length+(r+1) < l'.length:=by omega
      have hj1:P.length+r < l'.length:=by omega
      have n1:P.length+i < P.length+(r+1):=by omega
      have n2:P.length+r < l.length:=by omega
      have n3:P.length+(r+1) < l.length:=by omega
      have w6:IntKind.i64.wrap (((P.length+(r+1):Nat):Int) - 1)=((P.length+r:Nat):Int):=by rw [wrap_id (by omega) (by omega)];omega
      have x1:l'[P.length+r]=U[r]:=get_form (A:=P++U.take r) hform lt.symm hj1
      have x2:l'[P.length+(r+1)]=w:=get_form (A:=P++U.take r++[U[r]]) (C:=U.drop (r+1)++Q) (by rw [hform];simp only [List.append_assoc,List.cons_append,List.nil_append]) (by rw [List.length_append,lt];rfl) hj
      have hsw:=swap_form' hform (i:=P.length+(r+1)) (j:=P.length+r) (by rw [lt];rfl) lt.symm hj hj1
      rw [x1,x2] at hsw
      have c1:=get_cells hc l' rest _ hj
      have c2:=get_cells hc l' rest _ hj1
      rw [x2] at c1
      rw [x1] at c2
      have d1:=left_cells hc l' rest _ hj
      have d2:=left_cells hc l' rest _ hj1
      have e1:=room_cells hc l' rest _ hj
      have e3:=set_cells hc l' rest _ hj U[r]
      have e4:=set_cells hc (l'.set (P.length+(r+1)) U[r]) rest _ (show P.length+r < _ by simpa using hj1) w
      have e5:=room_cells hc (l'.set (P.length+(r+1)) U[r]) rest _ (show P.length+r < _ by simpa using hj1)
      rw [hsw] at e4
      simp only [↓rA,rB,buildOk,nt_is,simprocAttr,tbGU1,Tryz.results109,gb,gr,g0,g14,g17,Int.ofNat_lt,n1,n2,n3,w6,c1,c2,d1,d2,e1,e3,e4,e5,hc,ho,Int.toNat_natCast,Int.natCast_nonneg]
      refine⟨0,_,?_,rfl⟩
      rw [List.drop_eq_getElem_cons htW]
      simp only [List.append_assoc,List.cons_append,List.nil_append]
     ·have hi':U.length - (U.length - i)=i:=by omega
      rw [hi'] at hl' g17
      subst hl'
      simp only [↓rA,rB,buildOk,nt_is,simprocAttr,tbGU1,Tryz.results109,gb,gr,g0,g14,g17,Int.ofNat_lt,Nat.lt_irrefl]
      refine⟨_,[_],[],Le.refl _,List.Sublist.refl _,List.nil_sublist _,rfl,rfl,U.take i++w::U.drop i,?_,?_,by simp only [List.append_assoc,List.cons_append,List.nil_append]⟩
      ·exact List.perm_middle.trans (by rw [List.take_append_drop];exact(List.perm_append_singleton w U).symm)
      ·have hsp:Srt cf (U.take i++U.drop i):=by rw [List.take_append_drop];exact sU
       refine srt_mid hsp (hsp.left.mid_l hP ?_) (hsp.right.mid_r hP ?_)
       ·cases i with
        | zero=>exact .inl rfl
        | succ i=>exact .inr ⟨U.take i,U[i]'(by omega),List.take_succ_eq_append_getElem (by omega),hlo i (by omega) rfl⟩
       ·rcases Nat.lt_or_ge i U.length with h' | h'
        ·exact .inr ⟨U[i],U.drop (i+1),List.drop_eq_getElem_cons h',hhi h'⟩
        ·exact .inl (List.drop_eq_nil_of_le h')
  ·have h2':¬ ((W.length:Nat):Int)=1:=by omega
   have w3:=half_wrap (i:=P.length) (j:=P.length+U.length+W.length) (by omega)
   obtain⟨M,hM⟩:∃ M,(P.length+(P.length+U.length+W.length)) / 2=M:=⟨_,rfl⟩
   have hm:=mid_eq (i:=P.length) (k:=P.length+U.length+W.length) (by omega) (by omega)
   rw [hM] at hm
   have w4:IntKind.i64.wrap ((M:Int)+((P.length+U.length:Nat):Int))=((M+(P.length+U.length):Nat):Int):=by rw [wrap_id (by omega) (by omega)];omega
   have w5:IntKind.i64.wrap (((M+(P.length+U.length):Nat):Int) - 1)=((M+(P.length+U.length) - 1:Nat):Int):=by rw [wrap_id (by omega) (by omega)];omega
   simp only [↓EX_end,↓EX_skip,↓EX_label,↓EX_block,↓EX_blk,↓EX_scope,↓EX_sc,↓EX_stop,↓EX_exit,↓EX_ret,↓EX_cond,↓EX_region,↓EX_draw,↓EX_loopleaf,↓EX_rangeleaf,↓XI_end,↓XI_code,↓XI_ops,↓XI_stop,↓XI_sc,↓XI_same,↓XI_other,↓EX_ops_nil,↓EX_plain,↓EX_guard,↓EX_dplain,↓EX_dguard,↓EX_gsoft,↓EX_gsoftg,↓EX_g_alloc,↓EX_g_box,↓EX_g_store,↓EX_g_append,↓EX_g_copy,↓EX_g_call,↓callR_func,↓EX_x_call,↓EX_x_buildSlice,↓callX_func,↓callX_yield,↓EX_h_makeMap,↓EX_h_lookup,↓EX_h_mapUpdate,↓ST_makeMap,↓ST_lookup,↓ST_mapUpdate,↓ST_insert,↓ST_makeInterface,↓ST_invoke,↓ST_mapEntry,↓ST_entryStore,↓ST_range,↓ST_next,↓ST_entry,↓makeMapK_eq,↓makeMapK_eqr,↓lookK_eq,↓lookD_nil,↓lookD_nil',↓lookD_box,↓lookD_box',↓updK_eq,↓updD_box,↓ifaceK_eq,↓invK_iface,↓mentK_eq,↓mentD_box,↓estD_box,↓rangeK_eq,↓rangeD_box,↓nextK_it,↓entryK_it,↓ST_move,↓ST_assign,↓ST_pick,↓ST_load,↓ST_fieldAddr,↓ST_field,↓ST_indexAddr,↓ST_index,↓ST_binOp,↓ST_unOp,↓ST_convert,↓ST_dconvert,↓ST_gconvert,↓ST_extract,↓ST_slice,↓ST_build,↓ST_nil,↓ST_len,↓ST_tlen,↓ST_glen,↓ST_max,↓ST_min,↓ST_call,↓ST_dcall,↓ST_gcall,↓ST_makeFunc,↓ST_alloc,↓ST_box,↓ST_store,↓ST_buildSlice,↓ST_dbuildSlice,↓ST_append,↓ST_copy,↓ST_clear,↓ST_makeSlice,↓ST_cap,↓EX_h_alloc,↓EX_h_box,↓EX_h_store,↓EX_h_append,↓EX_h_makeSlice,↓EX_h_copy,↓loadK_eq,↓partK_eq,↓fieldAddrK_eq,↓zeroP_ptr,↓fieldK_eq,↓idxAddrD_slice,↓idxAddrD_array,↓idxAddrK_eq,↓idxD_string,↓idxD_array,↓idxK_eq,↓convD_int,↓convD_string,↓convK_eq,↓convE_int,↓convE_string,↓convE_bytes,↓convE_str,↓strB_lit,↓convB_eq,↓bytesD_nil,↓bytesD_box,↓bytesD_list,↓lenD_string,↓lenD_slice,↓lenK_eq,↓lenE_map,↓lenE_string,↓lenE_slice,↓lenQ_eq,↓lenM_box,↓sliceD_string,↓sliceD_slice,↓sliceD_slice3,↓sliceK_eq,↓buildK_eq,↓funcK_eq,↓loadD_agg,↓loadD_one,↓partD_agg,↓partD_one,↓allocK_eq,↓boxK_eq,↓storeK_eq,↓buildSliceK_eq,↓buildAny_zero,↓buildAny_cons,↓buildSliceD_eq,↓appendK_eq,↓appSK_eq,↓capK_eq,↓srcK_eq,↓appMK_eq,↓appAK_eq,↓copyK_eq,↓clearK_eq,↓AllV_eq,↓retQ_ret,↓retQ_normal,↓retK,↓resV_nil,↓resV_tmp,↓resV_cell,getN_same,getN_other,natPos,td1,td2,td3,keep_σ,keep_boxes,keep_rows,nilRow_same,nilRow_ne,nilRow_boxes,nilRow_rows,onVal_eq,onB_t,onB_f,nat0,dropB_σ,dropB_boxes,dropB_rows,onMapT_some,onM_some,onI_some,onFind_some,onFind_none,onEnt_some,onEnt_none,mapOf_map,getM_same,getM_other,getI_same,getI_other,setX_same,setX_other,valV_agg,valV_str,valV_int,keyV_lit,keyV_agg,keyS_agg,keyS_str,keyS_int,addB_σ,addB_boxes,addB_rows,onMode_0,onMode_1,onMode_2,onMode_3,onMode_4,modeOf_nil,modeOf_cons,ncall,Todo_eq,put_eq,put_ne,put_none,put_boxes,put_rows,addBox_σ,addBox_boxes,addBox_rows,addRow_σ,addRow_boxes,addRow_rows,setBoxes_σ,setBoxes_boxes,setBoxes_rows,setRows_σ,setRows_boxes,setRows_rows,S0_σ,S0_boxes,S0_rows,ev_tmp,ev_const,ev_global,gvL_nil,gvL_cons,globs_is,ev_func,guardV_eq,getB_same,getB_other,setB_same,setB_other,packV,soft_move,soft_assign,soft_pick,soft_load,soft_fieldAddr,soft_field,soft_indexAddr,soft_index,soft_binOp,soft_unOp,soft_convert,soft_extract,soft_slice,soft_build,soft_nil,soft_buildSlice,soft_makeFunc,soft_callv,soft_len,soft_cap,soft_max,soft_min,onSome_some,onInt_int,onStr_str,onAgg_agg,onTup_tup,onHead_cons,onBool_bool,onGuard_tt,onGuard_ft,onGuard_tf,onGuard_ff,onGuard_skip,onCond_t,onCond_f,onL_list,onL_nil,onS_list,onS_nil,onS_box,capD_slice,bnd_none,bnd_int,shiftP_ref,shiftP_ptr,atP_ref,atP_ptr,posK_succ,posK_zero,bxOf_f,buildOk,binK_int,binK_str,binK_bool,boolOf_bool,binK_nil,binK_lnil,notNil_some,notNil_none,nilQ_eq,binK_agg,EqK_eql',EqK_neq',eqTB,litB,litV,fitL,fit,veqL,veq,unK_lit,nilK_ptr,nilK_ref,nilK_func,maxK_max,maxK_min,onPtr_ptr,sliceOf_slice,appD_nil,appD_own,srcD_list,srcD_nil,srcD_box,srcD_str,appMD_box,appAD_nil,appAD_box,copyD_nil,copyD_box,clrD_nil,clrD_box,makeSliceK_int,appendAny_own,appendAny_ownN,appendAny_ownS,appendAny_nil,appendAny_zeros,appendAny_list,appendAny_slice,appendAny_str,If2_t,If2_f,takeRF_single,callE_func,callE_yield,callK_func,And2_true,sbin,sun,nilB,cellsV,oneB,okC,vals,fillV,partsE,nt_is,Int.le_refl,Nat.sub_zero,Nat.zero_le,Nat.le_refl,eq_self,and_true,true_and,and_self,if_true,if_false,false_and,and_false,or_false,false_or,or_true,true_or,not_true_eq_false,not_false_eq_true,decide_true,decide_false,decide_eq_true_eq,Option.some.injEq,reduceCtorEq,Bool.false_eq_true,ne_eq,List.getD_cons_zero,List.getD_cons_succ,List.getD_nil,List.getElem?_cons_zero,List.getElem?_cons_succ,List.getElem?_nil,Option.bind_some,Option.bind_none,Option.map_some,Option.map_none,Option.isSome_some,Option.isSome_none,Option.isNone_some,Option.isNone_none,List.map_cons,List.map_nil,List.take_succ_cons,List.take_zero,List.take_nil,List.drop_succ_cons,List.drop_zero,List.drop_nil,List.length_cons,List.length_nil,List.cons_append,List.nil_append,List.append_nil,List.filter_nil,List.filter_cons,List.any_nil,List.any_cons,List.all_nil,List.all_cons,List.toList_toArray,Nat.add_zero,Nat.zero_add,Bool.not_true,Bool.not_false,Bool.true_and,Bool.and_true,Bool.or_false,Bool.false_or,Bool.and_false,Bool.false_and,Bool.or_true,Bool.true_or,implies_true,Nat.reduceLT,Nat.reduceLeDiff,Nat.reduceEqDiff,Nat.reduceAdd,Nat.reduceSub,Nat.reduceMul,Int.reduceToNat,Int.reduceLE,Int.reduceLT,Int.reduceEq,Int.toNat_natCast,Int.natCast_nonneg,tbGU1,Tryz.results109]
   rw [EX_seq,EX_seq]
   simp only [↓EX_end,↓EX_skip,↓EX_label,↓EX_block,↓EX_blk,↓EX_scope,↓EX_sc,↓EX_stop,↓EX_exit,↓EX_ret,↓EX_cond,↓EX_region,↓EX_draw,↓EX_loopleaf,↓EX_rangeleaf,↓XI_end,↓XI_code,↓XI_ops,↓XI_stop,↓XI_sc,↓XI_same,↓XI_other,↓EX_ops_nil,↓EX_plain,↓EX_guard,↓EX_dplain,↓EX_dguard,↓EX_gsoft,↓EX_gsoftg,↓EX_g_alloc,↓EX_g_box,↓EX_g_store,↓EX_g_append,↓EX_g_copy,↓EX_g_call,↓callR_func,↓EX_x_call,↓EX_x_buildSlice,↓callX_func,↓callX_yield,↓EX_h_makeMap,↓EX_h_lookup,↓EX_h_mapUpdate,↓ST_makeMap,↓ST_lookup,↓ST_mapUpdate,↓ST_insert,↓ST_makeInterface,↓ST_invoke,↓ST_mapEntry,↓ST_entryStore,↓ST_range,↓ST_next,↓ST_entry,↓makeMapK_eq,↓makeMapK_eqr,↓lookK_eq,↓lookD_nil,↓lookD_nil',↓lookD_box,↓lookD_box',↓updK_eq,↓updD_box,↓ifaceK_eq,↓invK_iface,↓mentK_eq,↓mentD_box,↓estD_box,↓rangeK_eq,↓rangeD_box,↓nextK_it,↓entryK_it,↓ST_move,↓ST_assign,↓ST_pick,↓ST_load,↓ST_fieldAddr,↓ST_field,↓ST_indexAddr,↓ST_index,↓ST_binOp,↓ST_unOp,↓ST_convert,↓ST_dconvert,↓ST_gconvert,↓ST_extract,↓ST_slice,↓ST_build,↓ST_nil,↓ST_len,↓ST_tlen,↓ST_glen,↓ST_max,↓ST_min,↓ST_call,↓ST_dcall,↓ST_gcall,↓ST_makeFunc,↓ST_alloc,↓ST_box,↓ST_store,↓ST_buildSlice,↓ST_dbuildSlice,↓ST_append,↓ST_copy,↓ST_clear,↓ST_makeSlice,↓ST_cap,↓EX_h_alloc,↓EX_h_box,↓EX_h_store,↓EX_h_append,↓EX_h_makeSlice,↓EX_h_copy,↓loadK_eq,↓partK_eq,↓fieldAddrK_eq,↓zeroP_ptr,↓fieldK_eq,↓idxAddrD_slice,↓idxAddrD_array,↓idxAddrK_eq,↓idxD_string,↓idxD_array,↓idxK_eq,↓convD_int,↓convD_string,↓convK_eq,↓convE_int,↓convE_string,↓convE_bytes,↓convE_str,↓strB_lit,↓convB_eq,↓bytesD_nil,↓bytesD_box,↓bytesD_list,↓lenD_string,↓lenD_slice,↓lenK_eq,↓lenE_map,↓lenE_string,↓lenE_slice,↓lenQ_eq,↓lenM_box,↓sliceD_string,↓sliceD_slice,↓sliceD_slice3,↓sliceK_eq,↓buildK_eq,↓funcK_eq,↓loadD_agg,↓loadD_one,↓partD_agg,↓partD_one,↓allocK_eq,↓boxK_eq,↓storeK_eq,↓buildSliceK_eq,↓buildAny_zero,↓buildAny_cons,↓buildSliceD_eq,↓appendK_eq,↓appSK_eq,↓capK_eq,↓srcK_eq,↓appMK_eq,↓appAK_eq,↓copyK_eq,↓clearK_eq,↓AllV_eq,↓retQ_ret,↓retQ_normal,↓retK,↓resV_nil,↓resV_tmp,↓resV_cell,getN_same,getN_other,natPos,td1,td2,td3,keep_σ,keep_boxes,keep_rows,nilRow_same,nilRow_ne,nilRow_boxes,nilRow_rows,onVal_eq,onB_t,onB_f,nat0,dropB_σ,dropB_boxes,dropB_rows,onMapT_some,onM_some,onI_some,onFind_some,onFind_none,onEnt_some,onEnt_none,mapOf_map,getM_same,getM_other,getI_same,getI_other,setX_same,setX_other,valV_agg,valV_str,valV_int,keyV_lit,keyV_agg,keyS_agg,keyS_str,keyS_int,addB_σ,addB_boxes,addB_rows,onMode_0,onMode_1,onMode_2,onMode_3,onMode_4,modeOf_nil,modeOf_cons,ncall,Todo_eq,put_eq,put_ne,put_none,put_boxes,put_rows,addBox_σ,addBox_boxes,addBox_rows,addRow_σ,addRow_boxes,addRow_rows,setBoxes_σ,setBoxes_boxes,setBoxes_rows,setRows_σ,setRows_boxes,setRows_rows,S0_σ,S0_boxes,S0_rows,ev_tmp,ev_const,ev_global,gvL_nil,gvL_cons,globs_is,ev_func,guardV_eq,getB_same,getB_other,setB_same,setB_other,packV,soft_move,soft_assign,soft_pick,soft_load,soft_fieldAddr,soft_field,soft_indexAddr,soft_index,soft_binOp,soft_unOp,soft_convert,soft_extract,soft_slice,soft_build,soft_nil,soft_buildSlice,soft_makeFunc,soft_callv,soft_len,soft_cap,soft_max,soft_min,onSome_some,onInt_int,onStr_str,onAgg_agg,onTup_tup,onHead_cons,onBool_bool,onGuard_tt,onGuard_ft,onGuard_tf,onGuard_ff,onGuard_skip,onCond_t,onCond_f,onL_list,onL_nil,onS_list,onS_nil,onS_box,capD_slice,bnd_none,bnd_int,shiftP_ref,shiftP_ptr,atP_ref,atP_ptr,posK_succ,posK_zero,bxOf_f,buildOk,binK_int,binK_str,binK_bool,boolOf_bool,binK_nil,binK_lnil,notNil_some,notNil_none,nilQ_eq,binK_agg,EqK_eql',EqK_neq',eqTB,litB,litV,fitL,fit,veqL,veq,unK_lit,nilK_ptr,nilK_ref,nilK_func,maxK_max,maxK_min,onPtr_ptr,sliceOf_slice,appD_nil,appD_own,srcD_list,srcD_nil,srcD_box,srcD_str,appMD_box,appAD_nil,appAD_box,copyD_nil,copyD_box,clrD_nil,clrD_box,makeSliceK_int,appendAny_own,appendAny_ownN,appendAny_ownS,appendAny_nil,appendAny_zeros,appendAny_list,appendAny_slice,appendAny_str,If2_t,If2_f,takeRF_single,callE_func,callE_yield,callK_func,And2_true,sbin,sun,nilB,cellsV,oneB,okC,vals,fillV,partsE,nt_is,Int.le_refl,Nat.sub_zero,Nat.zero_le,Nat.le_refl,eq_self,and_true,true_and,and_self,if_true,if_false,false_and,and_false,or_false,false_or,or_true,true_or,not_true_eq_false,not_false_eq_true,decide_true,decide_false,decide_eq_true_eq,Option.some.injEq,reduceCtorEq,Bool.false_eq_true,ne_eq,List.getD_cons_zero,List.getD_cons_succ,List.getD_nil,List.getElem?_cons_zero,List.getElem?_cons_succ,List.getElem?_nil,Option.bind_some,Option.bind_none,Option.map_some,Option.map_none,Option.isSome_some,Option.isSome_none,Option.isNone_some,Option.isNone_none,List.map_cons,List.map_nil,List.take_succ_cons,List.take_zero,List.take_nil,List.drop_succ_cons,List.drop_zero,List.drop_nil,List.length_cons,List.length_nil,List.cons_append,List.nil_append,List.append_nil,List.filter_nil,List.filter_cons,List.any_nil,List.any_cons,List.all_nil,List.all_cons,List.toList_toArray,Nat.add_zero,Nat.zero_add,Bool.not_true,Bool.not_false,Bool.true_and,Bool.and_true,Bool.or_false,Bool.false_or,Bool.and_false,Bool.false_and,Bool.or_true,Bool.true_or,implies_true,Nat.reduceLT,Nat.reduceLeDiff,Nat.reduceEqDiff,Nat.reduceAdd,Nat.reduceSub,Nat.reduceMul,Int.reduceToNat,Int.reduceLE,Int.reduceLT,Int.reduceEq,Int.toNat_natCast,Int.natCast_nonneg,tbGU1,Tryz.results109,w1,h1']
   rw [EX_seq,EX_seq]
   simp only [↓EX_end,↓EX_skip,↓EX_label,↓EX_block,↓EX_blk,↓EX_scope,↓EX_sc,↓EX_stop,↓EX_exit,↓EX_ret,↓EX_cond,↓EX_region,↓EX_draw,↓EX_loopleaf,↓EX_rangeleaf,↓XI_end,↓XI_code,↓XI_ops,↓XI_stop,↓XI_sc,↓XI_same,↓XI_other,↓EX_ops_nil,↓EX_plain,↓EX_guard,↓EX_dplain,↓EX_dguard,↓EX_gsoft,↓EX_gsoftg,↓EX_g_alloc,↓EX_g_box,↓EX_g_store,↓EX_g_append,↓EX_g_copy,↓EX_g_call,↓callR_func,↓EX_x_call,↓EX_x_buildSlice,↓callX_func,↓callX_yield,↓EX_h_makeMap,↓EX_h_lookup,↓EX_h_mapUpdate,↓ST_makeMap,↓ST_lookup,↓ST_mapUpdate,↓ST_insert,↓ST_makeInterface,↓ST_invoke,↓ST_mapEntry,↓ST_entryStore,↓ST_range,↓ST_next,↓ST_entry,↓makeMapK_eq,↓makeMapK_eqr,↓lookK_eq,↓lookD_nil,↓lookD_nil',↓lookD_box,↓lookD_box',↓updK_eq,↓updD_box,↓ifaceK_eq,↓invK_iface,↓mentK_eq,↓mentD_box,↓estD_box,↓rangeK_eq,↓rangeD_box,↓nextK_it,↓entryK_it,↓ST_move,↓ST_assign,↓ST_pick,↓ST_load,↓ST_fieldAddr,↓ST_field,↓ST_indexAddr,↓ST_index,↓ST_binOp,↓ST_unOp,↓ST_convert,↓ST_dconvert,↓ST_gconvert,↓ST_extract,↓ST_slice,↓ST_build,↓ST_nil,↓ST_len,↓ST_tlen,↓ST_glen,↓ST_max,↓ST_min,↓ST_call,↓ST_dcall,↓ST_gcall,↓ST_makeFunc,↓ST_alloc,↓ST_box,↓ST_store,↓ST_buildSlice,↓ST_dbuildSlice,↓ST_append,↓ST_copy,↓ST_clear,↓ST_makeSlice,↓ST_cap,↓EX_h_alloc,↓EX_h_box,↓EX_h_store,↓EX_h_append,↓EX_h_makeSlice,↓EX_h_copy,↓loadK_eq,↓partK_eq,↓fieldAddrK_eq,↓zeroP_ptr,↓fieldK_eq,↓idxAddrD_slice,↓idxAddrD_array,↓idxAddrK_eq,↓idxD_string,↓idxD_array,↓idxK_eq,↓convD_int,↓convD_string,↓convK_eq,↓convE_int,↓convE_string,↓convE_bytes,↓convE_str,↓strB_lit,↓convB_eq,↓bytesD_nil,↓bytesD_box,↓bytesD_list,↓lenD_string,↓lenD_slice,↓lenK_eq,↓lenE_map,↓lenE_string,↓lenE_slice,↓lenQ_eq,↓lenM_box,↓sliceD_string,↓sliceD_slice,↓sliceD_slice3,↓sliceK_eq,↓buildK_eq,↓funcK_eq,↓loadD_agg,↓loadD_one,↓partD_agg,↓partD_one,↓allocK_eq,↓boxK_eq,↓storeK_eq,↓buildSliceK_eq,↓buildAny_zero,↓buildAny_cons,↓buildSliceD_eq,↓appendK_eq,↓appSK_eq,↓capK_eq,↓srcK_eq,↓appMK_eq,↓appAK_eq,↓copyK_eq,↓clearK_eq,↓AllV_eq,↓retQ_ret,↓retQ_normal,↓retK,↓resV_nil,↓resV_tmp,↓resV_cell,getN_same,getN_other,natPos,td1,td2,td3,keep_σ,keep_boxes,keep_rows,nilRow_same,nilRow_ne,nilRow_boxes,nilRow_rows,onVal_eq,onB_t,onB_f,nat0,dropB_σ,dropB_boxes,dropB_rows,onMapT_some,onM_some,onI_some,onFind_some,onFind_none,onEnt_some,onEnt_none,mapOf_map,getM_same,getM_other,getI_same,getI_other,setX_same,setX_other,valV_agg,valV_str,valV_int,keyV_lit,keyV_agg,keyS_agg,keyS_str,keyS_int,addB_σ,addB_boxes,addB_rows,onMode_0,onMode_1,onMode_2,onMode_3,onMode_4,modeOf_nil,modeOf_cons,ncall,Todo_eq,put_eq,put_ne,put_none,put_boxes,put_rows,addBox_σ,addBox_boxes,addBox_rows,addRow_σ,addRow_boxes,addRow_rows,setBoxes_σ,setBoxes_boxes,setBoxes_rows,setRows_σ,setRows_boxes,setRows_rows,S0_σ,S0_boxes,S0_rows,ev_tmp,ev_const,ev_global,gvL_nil,gvL_cons,globs_is,ev_func,guardV_eq,getB_same,getB_other,setB_same,setB_other,packV,soft_move,soft_assign,soft_pick,soft_load,soft_fieldAddr,soft_field,soft_indexAddr,soft_index,soft_binOp,soft_unOp,soft_convert,soft_extract,soft_slice,soft_build,soft_nil,soft_buildSlice,soft_makeFunc,soft_callv,soft_len,soft_cap,soft_max,soft_min,onSome_some,onInt_int,onStr_str,onAgg_agg,onTup_tup,onHead_cons,onBool_bool,onGuard_tt,onGuard_ft,onGuard_tf,onGuard_ff,onGuard_skip,onCond_t,onCond_f,onL_list,onL_nil,onS_list,onS_nil,onS_box,capD_slice,bnd_none,bnd_int,shiftP_ref,shiftP_ptr,atP_ref,atP_ptr,posK_succ,posK_zero,bxOf_f,buildOk,binK_int,binK_str,binK_bool,boolOf_bool,binK_nil,binK_lnil,notNil_some,notNil_none,nilQ_eq,binK_agg,EqK_eql',EqK_neq',eqTB,litB,litV,fitL,fit,veqL,veq,unK_lit,nilK_ptr,nilK_ref,nilK_func,maxK_max,maxK_min,onPtr_ptr,sliceOf_slice,appD_nil,appD_own,srcD_list,srcD_nil,srcD_box,srcD_str,appMD_box,appAD_nil,appAD_box,copyD_nil,copyD_box,clrD_nil,clrD_box,makeSliceK_int,appendAny_own,appendAny_ownN,appendAny_ownS,appendAny_nil,appendAny_zeros,appendAny_list,appendAny_slice,appendAny_str,If2_t,If2_f,takeRF_single,callE_func,callE_yield,callK_func,And2_true,sbin,sun,nilB,cellsV,oneB,okC,vals,fillV,partsE,nt_is,Int.le_refl,Nat.sub_zero,Nat.zero_le,Nat.le_refl,eq_self,and_true,true_and,and_self,if_true,if_false,false_and,and_false,or_false,false_or,or_true,true_or,not_true_eq_false,not_false_eq_true,decide_true,decide_false,decide_eq_true_eq,Option.some.injEq,reduceCtorEq,Bool.false_eq_true,ne_eq,List.getD_cons_zero,List.getD_cons_succ,List.getD_nil,List.getElem?_cons_zero,List.getElem?_cons_succ,List.getElem?_nil,Option.bind_some,Option.bind_none,Option.map_some,Option.map_none,Option.isSome_some,Option.isSome_none,Option.isNone_some,Option.isNone_none,List.map_cons,List.map_nil,List.take_succ_cons,List.take_zero,List.take_nil,List.drop_succ_cons,List.drop_zero,List.drop_nil,List.length_cons,List.length_nil,List.cons_append,List.nil_append,List.append_nil,List.filter_nil,List.filter_cons,List.any_nil,List.any_cons,List.all_nil,List.all_cons,List.toList_toArray,Nat.add_zero,Nat.zero_add,Bool.not_true,Bool.not_false,Bool.true_and,Bool.and_true,Bool.or_false,Bool.false_or,Bool.and_false,Bool.false_and,Bool.or_true,Bool.true_or,implies_true,Nat.reduceLT,Nat.reduceLeDiff,Nat.reduceEqDiff,Nat.reduceAdd,Nat.reduceSub,Nat.reduceMul,Int.reduceToNat,Int.reduceLE,Int.reduceLT,Int.reduceEq,Int.toNat_natCast,Int.natCast_nonneg,tbGU1,Tryz.results109,w2,h2']
   rw [EX_seq]
   simp only [↓EX_end,↓EX_skip,↓EX_label,↓EX_block,↓EX_blk,↓EX_scope,↓EX_sc,↓EX_stop,↓EX_exit,↓EX_ret,↓EX_cond,↓EX_region,↓EX_draw,↓EX_loopleaf,↓EX_rangeleaf,↓XI_end,↓XI_code,↓XI_ops,↓XI_stop,↓XI_sc,↓XI_same,↓XI_other,↓EX_ops_nil,↓EX_plain,↓EX_guard,↓EX_dplain,↓EX_dguard,↓EX_gsoft,↓EX_gsoftg,↓EX_g_alloc,↓EX_g_box,↓EX_g_store,↓EX_g_append,↓EX_g_copy,↓EX_g_call,↓callR_func,↓EX_x_call,↓EX_x_buildSlice,↓callX_func,↓callX_yield,↓EX_h_makeMap,↓EX_h_lookup,↓EX_h_mapUpdate,↓ST_makeMap,↓ST_lookup,↓ST_mapUpdate,↓ST_insert,↓ST_makeInterface,↓ST_invoke,↓ST_mapEntry,↓ST_entryStore,↓ST_range,↓ST_next,↓ST_entry,↓makeMapK_eq,↓makeMapK_eqr,↓lookK_eq,↓lookD_nil,↓lookD_nil',↓lookD_box,↓lookD_box',↓updK_eq,↓updD_box,↓ifaceK_eq,↓invK_iface,↓mentK_eq,↓mentD_box,↓estD_box,↓rangeK_eq,↓rangeD_box,↓nextK_it,↓entryK_it,↓ST_move,↓ST_assign,↓ST_pick,↓ST_load,↓ST_fieldAddr,↓ST_field,↓ST_indexAddr,↓ST_index,↓ST_binOp,↓ST_unOp,↓ST_convert,↓ST_dconvert,↓ST_gconvert,↓ST_extract,↓ST_slice,↓ST_build,↓ST_nil,↓ST_len,↓ST_tlen,↓ST_glen,↓ST_max,↓ST_min,↓ST_call,↓ST_dcall,↓ST_gcall,↓ST_makeFunc,↓ST_alloc,↓ST_box,↓ST_store,↓ST_buildSlice,↓ST_dbuildSlice,↓ST_append,↓ST_copy,↓ST_clear,↓ST_makeSlice,↓ST_cap,↓EX_h_alloc,↓EX_h_box,↓EX_h_store,↓EX_h_append,↓EX_h_makeSlice,↓EX_h_copy,↓loadK_eq,↓partK_eq,↓fieldAddrK_eq,↓zeroP_ptr,↓fieldK_eq,↓idxAddrD_slice,↓idxAddrD_array,↓idxAddrK_eq,↓idxD_string,↓idxD_array,↓idxK_eq,↓convD_int,↓convD_string,↓convK_eq,↓convE_int,↓convE_string,↓convE_bytes,↓convE_str,↓strB_lit,↓convB_eq,↓bytesD_nil,↓bytesD_box,↓bytesD_list,↓lenD_string,↓lenD_slice,↓lenK_eq,↓lenE_map,↓lenE_string,↓lenE_slice,↓lenQ_eq,↓lenM_box,↓sliceD_string,↓sliceD_slice,↓sliceD_slice3,↓sliceK_eq,↓buildK_eq,↓funcK_eq,↓loadD_agg,↓loadD_one,↓partD_agg,↓partD_one,↓allocK_eq,↓boxK_eq,↓storeK_eq,↓buildSliceK_eq,↓buildAny_zero,↓buildAny_cons,↓buildSliceD_eq,↓appendK_eq,↓appSK_eq,↓capK_eq,↓srcK_eq,↓appMK_eq,↓appAK_eq,↓copyK_eq,↓clearK_eq,↓AllV_eq,↓retQ_ret,↓retQ_normal,↓retK,↓resV_nil,↓resV_tmp,↓resV_cell,getN_same,getN_other,natPos,td1,td2,td3,keep_σ,keep_boxes,keep_rows,nilRow_same,nilRow_ne,nilRow_boxes,nilRow_rows,onVal_eq,onB_t,onB_f,nat0,dropB_σ,dropB_boxes,dropB_rows,onMapT_some,onM_some,onI_some,onFind_some,onFind_none,onEnt_some,onEnt_none,mapOf_map,getM_same,getM_other,getI_same,getI_other,setX_same,setX_other,valV_agg,valV_str,valV_int,keyV_lit,keyV_agg,keyS_agg,keyS_str,keyS_int,addB_σ,addB_boxes,addB_rows,onMode_0,onMode_1,onMode_2,onMode_3,onMode_4,modeOf_nil,modeOf_cons,ncall,Todo_eq,put_eq,put_ne,put_none,put_boxes,put_rows,addBox_σ,addBox_boxes,addBox_rows,addRow_σ,addRow_boxes,addRow_rows,setBoxes_σ,setBoxes_boxes,setBoxes_rows,setRows_σ,setRows_boxes,setRows_rows,S0_σ,S0_boxes,S0_rows,ev_tmp,ev_const,ev_global,gvL_nil,gvL_cons,globs_is,ev_func,guardV_eq,getB_same,getB_other,setB_same,setB_other,packV,soft_move,soft_assign,soft_pick,soft_load,soft_fieldAddr,soft_field,soft_indexAddr,soft_index,soft_binOp,soft_unOp,soft_convert,soft_extract,soft_slice,soft_build,soft_nil,soft_buildSlice,soft_makeFunc,soft_callv,soft_len,soft_cap,soft_max,soft_min,onSome_some,onInt_int,onStr_str,onAgg_agg,onTup_tup,onHead_cons,onBool_bool,onGuard_tt,onGuard_ft,onGuard_tf,onGuard_ff,onGuard_skip,onCond_t,onCond_f,onL_list,onL_nil,onS_list,onS_nil,onS_box,capD_slice,bnd_none,bnd_int,shiftP_ref,shiftP_ptr,atP_ref,atP_ptr,posK_succ,posK_zero,bxOf_f,buildOk,binK_int,binK_str,binK_bool,boolOf_bool,binK_nil,binK_lnil,notNil_some,notNil_none,nilQ_eq,binK_agg,EqK_eql',EqK_neq',eqTB,litB,litV,fitL,fit,veqL,veq,unK_lit,nilK_ptr,nilK_ref,nilK_func,maxK_max,maxK_min,onPtr_ptr,sliceOf_slice,appD_nil,appD_own,srcD_list,srcD_nil,srcD_box,srcD_str,appMD_box,appAD_nil,appAD_box,copyD_nil,copyD_box,clrD_nil,clrD_box,makeSliceK_int,appendAny_own,appendAny_ownN,appendAny_ownS,appendAny_nil,appendAny_zeros,appendAny_list,appendAny_slice,appendAny_str,If2_t,If2_f,takeRF_single,callE_func,callE_yield,callK_func,And2_true,sbin,sun,nilB,cellsV,oneB,okC,vals,fillV,partsE,nt_is,Int.le_refl,Nat.sub_zero,Nat.zero_le,Nat.le_refl,eq_self,and_true,true_and,and_self,if_true,if_false,false_and,and_false,or_false,false_or,or_true,true_or,not_true_eq_false,not_false_eq_true,decide_true,decide_false,decide_eq_true_eq,Option.some.injEq,reduceCtorEq,Bool.false_eq_true,ne_eq,List.getD_cons_zero,List.getD_cons_succ,List.getD_nil,List.getElem?_cons_zero,List.getElem?_cons_succ,List.getElem?_nil,Option.bind_some,Option.bind_none,Option.map_some,Option.map_none,Option.isSome_some,Option.isSome_none,Option.isNone_some,Option.isNone_none,List.map_cons,List.map_nil,List.take_succ_cons,List.take_zero,List.take_nil,List.drop_succ_cons,List.drop_zero,List.drop_nil,List.length_cons,List.length_nil,List.cons_append,List.nil_append,List.append_nil,List.filter_nil,List.filter_cons,List.any_nil,List.any_cons,List.all_nil,List.all_cons,List.toList_toArray,Nat.add_zero,Nat.zero_add,Bool.not_true,Bool.not_false,Bool.true_and,Bool.and_true,Bool.or_false,Bool.false_or,Bool.and_false,Bool.false_and,Bool.or_true,Bool.true_or,implies_true,Nat.reduceLT,Nat.reduceLeDiff,Nat.reduceEqDiff,Nat.reduceAdd,Nat.reduceSub,Nat.reduceMul,Int.reduceToNat,Int.reduceLE,Int.reduceLT,Int.reduceEq,Int.toNat_natCast,Int.natCast_nonneg,tbGU1,Tryz.results109,hm]
   clear hm w3
   rw [EX_seq]
   simp only [↓EX_end,↓EX_skip,↓EX_label,↓EX_block,↓EX_blk,↓EX_scope,↓EX_sc,↓EX_stop,↓EX_exit,↓EX_ret,↓EX_cond,↓EX_region,↓EX_draw,↓EX_loopleaf,↓EX_rangeleaf,↓XI_end,↓XI_code,↓XI_ops,↓XI_stop,↓XI_sc,↓XI_same,↓XI_other,↓EX_ops_nil,↓EX_plain,↓EX_guard,↓EX_dplain,↓EX_dguard,↓EX_gsoft,↓EX_gsoftg,↓EX_g_alloc,↓EX_g_box,↓EX_g_store,↓EX_g_append,↓EX_g_copy,↓EX_g_call,↓callR_func,↓EX_x_call,↓EX_x_buildSlice,↓callX_func,↓callX_yield,↓EX_h_makeMap,↓EX_h_lookup,↓EX_h_mapUpdate,↓ST_makeMap,↓ST_lookup,↓ST_mapUpdate,↓ST_insert,↓ST_makeInterface,↓ST_invoke,↓ST_mapEntry,↓ST_entryStore,↓ST_range,↓ST_next,↓ST_entry,↓makeMapK_eq,↓makeMapK_eqr,↓lookK_eq,↓lookD_nil,↓lookD_nil',↓lookD_box,↓lookD_box',↓updK_eq,↓updD_box,↓ifaceK_eq,↓invK_iface,↓mentK_eq,↓mentD_box,↓estD_box,↓rangeK_eq,↓rangeD_box,↓nextK_it,↓entryK_it,↓ST_move,↓ST_assign,↓ST_pick,↓ST_load,↓ST_fieldAddr,↓ST_field,↓ST_indexAddr,↓ST_index,↓ST_binOp,↓ST_unOp,↓ST_convert,↓ST_dconvert,↓ST_gconvert,↓ST_extract,↓ST_slice,↓ST_build,↓ST_nil,↓ST_len,↓ST_tlen,↓ST_glen,↓ST_max,↓ST_min,↓ST_call,↓ST_dcall,↓ST_gcall,↓ST_makeFunc,↓ST_alloc,↓ST_box,↓ST_store,↓ST_buildSlice,↓ST_dbuildSlice,↓ST_append,↓ST_copy,↓ST_clear,↓ST_makeSlice,↓ST_cap,↓EX_h_alloc,↓EX_h_box,↓EX_h_store,↓EX_h_append,↓EX_h_makeSlice,↓EX_h_copy,↓loadK_eq,↓partK_eq,↓fieldAddrK_eq,↓zeroP_ptr,↓fieldK_eq,↓idxAddrD_slice,↓idxAddrD_array,↓idxAddrK_eq,↓idxD_string,↓idxD_array,↓idxK_eq,↓convD_int,↓convD_string,↓convK_eq,↓convE_int,↓convE_string,↓convE_bytes,↓convE_str,↓strB_lit,↓convB_eq,↓bytesD_nil,↓bytesD_box,↓bytesD_list,↓lenD_string,↓lenD_slice,↓lenK_eq,↓lenE_map,↓lenE_string,↓lenE_slice,↓lenQ_eq,↓lenM_box,↓sliceD_string,↓sliceD_slice,↓sliceD_slice3,↓sliceK_eq,↓buildK_eq,↓funcK_eq,↓loadD_agg,↓loadD_one,↓partD_agg,↓partD_one,↓allocK_eq,↓boxK_eq,↓storeK_eq,↓buildSliceK_eq,↓buildAny_zero,↓buildAny_cons,↓buildSliceD_eq,↓appendK_eq,↓appSK_eq,↓capK_eq,↓srcK_eq,↓appMK_eq,↓appAK_eq,↓copyK_eq,↓clearK_eq,↓AllV_eq,↓retQ_ret,↓retQ_normal,↓retK,↓resV_nil,↓resV_tmp,↓resV_cell,getN_same,getN_other,natPos,td1,td2,td3,keep_σ,keep_boxes,keep_rows,nilRow_same,nilRow_ne,nilRow_boxes,nilRow_rows,onVal_eq,onB_t,onB_f,nat0,dropB_σ,dropB_boxes,dropB_rows,onMapT_some,onM_some,onI_some,onFind_some,onFind_none,onEnt_some,onEnt_none,mapOf_map,getM_same,getM_other,getI_same,getI_other,setX_same,setX_other,valV_agg,valV_str,valV_int,keyV_lit,keyV_agg,keyS_agg,keyS_str,keyS_int,addB_σ,addB_boxes,addB_rows,onMode_0,onMode_1,onMode_2,onMode_3,onMode_4,modeOf_nil,modeOf_cons,ncall,Todo_eq,put_eq,put_ne,put_none,put_boxes,put_rows,addBox_σ,addBox_boxes,addBox_rows,addRow_σ,addRow_boxes,addRow_rows,setBoxes_σ,setBoxes_boxes,setBoxes_rows,setRows_σ,setRows_boxes,setRows_rows,S0_σ,S0_boxes,S0_rows,ev_tmp,ev_const,ev_global,gvL_nil,gvL_cons,globs_is,ev_func,guardV_eq,getB_same,getB_other,setB_same,setB_other,packV,soft_move,soft_assign,soft_pick,soft_load,soft_fieldAddr,soft_field,soft_indexAddr,soft_index,soft_binOp,soft_unOp,soft_convert,soft_extract,soft_slice,soft_build,soft_nil,soft_buildSlice,soft_makeFunc,soft_callv,soft_len,soft_cap,soft_max,soft_min,onSome_some,onInt_int,onStr_str,onAgg_agg,onTup_tup,onHead_cons,onBool_bool,onGuard_tt,onGuard_ft,onGuard_tf,onGuard_ff,onGuard_skip,onCond_t,onCond_f,onL_list,onL_nil,onS_list,onS_nil,onS_box,capD_slice,bnd_none,bnd_int,shiftP_ref,shiftP_ptr,atP_ref,atP_ptr,posK_succ,posK_zero,bxOf_f,buildOk,binK_int,binK_str,binK_bool,boolOf_bool,binK_nil,binK_lnil,notNil_some,notNil_none,nilQ_eq,binK_agg,EqK_eql',EqK_neq',eqTB,litB,litV,fitL,fit,veqL,veq,unK_lit,nilK_ptr,nilK_ref,nilK_func,maxK_max,maxK_min,onPtr_ptr,sliceOf_slice,appD_nil,appD_own,srcD_list,srcD_nil,srcD_box,srcD_str,appMD_box,appAD_nil,appAD_box,copyD_nil,copyD_box,clrD_nil,clrD_box,makeSliceK_int,appendAny_own,appendAny_ownN,appendAny_ownS,appendAny_nil,appendAny_zeros,appendAny_list,appendAny_slice,appendAny_str,If2_t,If2_f,takeRF_single,callE_func,callE_yield,callK_func,And2_true,sbin,sun,nilB,cellsV,oneB,okC,vals,fillV,partsE,nt_is,Int.le_refl,Nat.sub_zero,Nat.zero_le,Nat.le_refl,eq_self,and_true,true_and,and_self,if_true,if_false,false_and,and_false,or_false,false_or,or_true,true_or,not_true_eq_false,not_false_eq_true,decide_true,decide_false,decide_eq_true_eq,Option.some.injEq,reduceCtorEq,Bool.false_eq_true,ne_eq,List.getD_cons_zero,List.getD_cons_succ,List.getD_nil,List.getElem?_cons_zero,List.getElem?_cons_succ,List.getElem?_nil,Option.bind_some,Option.bind_none,Option.map_some,Option.map_none,Option.isSome_some,Option.isSome_none,Option.isNone_some,Option.isNone_none,List.map_cons,List.map_nil,List.take_succ_cons,List.take_zero,List.take_nil,List.drop_succ_cons,List.drop_zero,List.drop_nil,List.length_cons,List.length_nil,List.cons_append,List.nil_append,List.append_nil,List.filter_nil,List.filter_cons,List.any_nil,List.any_cons,List.all_nil,List.all_cons,List.toList_toArray,Nat.add_zero,Nat.zero_add,Bool.not_true,Bool.not_false,Bool.true_and,Bool.and_true,Bool.or_false,Bool.false_or,Bool.and_false,Bool.false_and,Bool.or_true,Bool.true_or,implies_true,Nat.reduceLT,Nat.reduceLeDiff,Nat.reduceEqDiff,Nat.reduceAdd,Nat.reduceSub,Nat.reduceMul,Int.reduceToNat,Int.reduceLE,Int.reduceLT,Int.reduceEq,Int.toNat_natCast,Int.natCast_nonneg,tbGU1,Tryz.results109,w4]
   rw [EX_seq]
   simp only [↓EX_end,↓EX_skip,↓EX_label,↓EX_block,↓EX_blk,↓EX_scope,↓EX_sc,↓EX_stop,↓EX_exit,↓EX_ret,↓EX_cond,↓EX_region,↓EX_draw,↓EX_loopleaf,↓EX_rangeleaf,↓XI_end,↓XI_code,↓XI_ops,↓XI_stop,↓XI_sc,↓XI_same,↓XI_other,↓EX_ops_nil,↓EX_plain,↓EX_guard,↓EX_dplain,↓EX_dguard,↓EX_gsoft,↓EX_gsoftg,↓EX_g_alloc,↓EX_g_box,↓EX_g_store,↓EX_g_append,↓EX_g_copy,↓EX_g_call,↓callR_func,↓EX_x_call,↓EX_x_buildSlice,↓callX_func,↓callX_yield,↓EX_h_makeMap,↓EX_h_lookup,↓EX_h_mapUpdate,↓ST_makeMap,↓ST_lookup,↓ST_mapUpdate,↓ST_insert,↓ST_makeInterface,↓ST_invoke,↓ST_mapEntry,↓ST_entryStore,↓ST_range,↓ST_next,↓ST_entry,↓makeMapK_eq,↓makeMapK_eqr,↓lookK_eq,↓lookD_nil,↓lookD_nil',↓lookD_box,↓lookD_box',↓updK_eq,↓updD_box,↓ifaceK_eq,↓invK_iface,↓mentK_eq,↓mentD_box,↓estD_box,↓rangeK_eq,↓rangeD_box,↓nextK_it,↓entryK_it,↓ST_move,↓ST_assign,↓ST_pick,↓ST_load,↓ST_fieldAddr,↓ST_field,↓ST_indexAddr,↓ST_index,↓ST_binOp,↓ST_unOp,↓ST_convert,↓ST_dconvert,↓ST_gconvert,↓ST_extract,↓ST_slice,↓ST_build,↓ST_nil,↓ST_len,↓ST_tlen,↓ST_glen,↓ST_max,↓ST_min,↓ST_call,↓ST_dcall,↓ST_gcall,↓ST_makeFunc,↓ST_alloc,↓ST_box,↓ST_store,↓ST_buildSlice,↓ST_dbuildSlice,↓ST_append,↓ST_copy,↓ST_clear,↓ST_makeSlice,↓ST_cap,↓EX_h_alloc,↓EX_h_box,↓EX_h_store,↓EX_h_append,↓EX_h_makeSlice,↓EX_h_copy,↓loadK_eq,↓partK_eq,↓fieldAddrK_eq,↓zeroP_ptr,↓fieldK_eq,↓idxAddrD_slice,↓idxAddrD_array,↓idxAddrK_eq,↓idxD_string,↓idxD_array,↓idxK_eq,↓convD_int,↓convD_string,↓convK_eq,↓convE_int,↓convE_string,↓convE_bytes,↓convE_str,↓strB_lit,↓convB_eq,↓bytesD_nil,↓bytesD_box,↓bytesD_list,↓lenD_string,↓lenD_slice,↓lenK_eq,↓lenE_map,↓lenE_string,↓lenE_slice,↓lenQ_eq,↓lenM_box,↓sliceD_string,↓sliceD_slice,↓sliceD_slice3,↓sliceK_eq,↓buildK_eq,↓funcK_eq,↓loadD_agg,↓loadD_one,↓partD_agg,↓partD_one,↓allocK_eq,↓boxK_eq,↓storeK_eq,↓buildSliceK_eq,↓buildAny_zero,↓buildAny_cons,↓buildSliceD_eq,↓appendK_eq,↓appSK_eq,↓capK_eq,↓srcK_eq,↓appMK_eq,↓appAK_eq,↓copyK_eq,↓clearK_eq,↓AllV_eq,↓retQ_ret,↓retQ_normal,↓retK,↓resV_nil,↓resV_tmp,↓resV_cell,getN_same,getN_other,natPos,td1,td2,td3,keep_σ,keep_boxes,keep_rows,nilRow_same,nilRow_ne,nilRow_boxes,nilRow_rows,onVal_eq,onB_t,onB_f,nat0,dropB_σ,dropB_boxes,dropB_rows,onMapT_some,onM_some,onI_some,onFind_some,onFind_none,onEnt_some,onEnt_none,mapOf_map,getM_same,getM_other,getI_same,getI_other,setX_same,setX_other,valV_agg,valV_str,valV_int,keyV_lit,keyV_agg,keyS_agg,keyS_str,keyS_int,addB_σ,addB_boxes,addB_rows,onMode_0,onMode_1,onMode_2,onMode_3,onMode_4,modeOf_nil,modeOf_cons,ncall,Todo_eq,put_eq,put_ne,put_none,put_boxes,put_rows,addBox_σ,addBox_boxes,addBox_rows,addRow_σ,addRow_boxes,addRow_rows,setBoxes_σ,setBoxes_boxes,setBoxes_rows,setRows_σ,setRows_boxes,setRows_rows,S0_σ,S0_boxes,S0_rows,ev_tmp,ev_const,ev_global,gvL_nil,gvL_cons,globs_is,ev_func,guardV_eq,getB_same,getB_other,setB_same,setB_other,packV,soft_move,soft_assign,soft_pick,soft_load,soft_fieldAddr,soft_field,soft_indexAddr,soft_index,soft_binOp,soft_unOp,soft_convert,soft_extract,soft_slice,soft_build,soft_nil,soft_buildSlice,soft_makeFunc,soft_callv,soft_len,soft_cap,soft_max,soft_min,onSome_some,onInt_int,onStr_str,onAgg_agg,onTup_tup,onHead_cons,onBool_bool,onGuard_tt,onGuard_ft,onGuard_tf,onGuard_ff,onGuard_skip,onCond_t,onCond_f,onL_list,onL_nil,onS_list,onS_nil,onS_box,capD_slice,bnd_none,bnd_int,shiftP_ref,shiftP_ptr,atP_ref,atP_ptr,posK_succ,posK_zero,bxOf_f,buildOk,binK_int,binK_str,binK_bool,boolOf_bool,binK_nil,binK_lnil,notNil_some,notNil_none,nilQ_eq,binK_agg,EqK_eql',EqK_neq',eqTB,litB,litV,fitL,fit,veqL,veq,unK_lit,nilK_ptr,nilK_ref,nilK_func,maxK_max,maxK_min,onPtr_ptr,sliceOf_slice,appD_nil,appD_own,srcD_list,srcD_nil,srcD_box,srcD_str,appMD_box,appAD_nil,appAD_box,copyD_nil,copyD_box,clrD_nil,clrD_box,makeSliceK_int,appendAny_own,appendAny_ownN,appendAny_ownS,appendAny_nil,appendAny_zeros,appendAny_list,appendAny_slice,appendAny_str,If2_t,If2_f,takeRF_single,callE_func,callE_yield,callK_func,And2_true,sbin,sun,nilB,cellsV,oneB,okC,vals,fillV,partsE,nt_is,Int.le_refl,Nat.sub_zero,Nat.zero_le,Nat.le_refl,eq_self,and_true,true_and,and_self,if_true,if_false,false_and,and_false,or_false,false_or,or_true,true_or,not_true_eq_false,not_false_eq_true,decide_true,decide_false,decide_eq_true_eq,Option.some.injEq,reduceCtorEq,Bool.false_eq_true,ne_eq,List.getD_cons_zero,List.getD_cons_succ,List.getD_nil,List.getElem?_cons_zero,List.getElem?_cons_succ,List.getElem?_nil,Option.bind_some,Option.bind_none,Option.map_some,Option.map_none,Option.isSome_some,Option.isSome_none,Option.isNone_some,Option.isNone_none,List.map_cons,List.map_nil,List.take_succ_cons,List.take_zero,List.take_nil,List.drop_succ_cons,List.drop_zero,List.drop_nil,List.length_cons,List.length_nil,List.cons_append,List.nil_append,List.append_nil,List.filter_nil,List.filter_cons,List.any_nil,List.any_cons,List.all_nil,List.all_cons,List.toList_toArray,Nat.add_zero,Nat.zero_add,Bool.not_true,Bool.not_false,Bool.true_and,Bool.and_true,Bool.or_false,Bool.false_or,Bool.and_false,Bool.false_and,Bool.or_true,Bool.true_or,implies_true,Nat.reduceLT,Nat.reduceLeDiff,Nat.reduceEqDiff,Nat.reduceAdd,Nat.reduceSub,Nat.reduceMul,Int.reduceToNat,Int.reduceLE,Int.reduceLT,Int.reduceEq,Int.toNat_natCast,Int.natCast_nonneg,tbGU1,Tryz.results109]
   rw [EX_seq]
   refine EX_cut (fun S=>∃ s0 r0:Nat,(s0≤r0∧P.length≤s0∧r0≤M∧r0≤P.length+U.length∧M+(P.length+U.length) - s0≤P.length+U.length+W.length∧(s0=P.length∨M+(P.length+U.length) - s0=P.length+U.length+W.length)∧(r0=M∨r0=P.length+U.length)) ∧
     S.boxes=[(b,.c ((l.map c).flatten++rest))]∧S.rows=[]∧S.σ 0=.lit (.slice (some ⟨b,0,none⟩) l.length cap)∧S.σ 1=vint P.length∧S.σ 2=vint ((P.length+U.length:Nat):Int)∧S.σ 3=vint ((P.length+U.length+W.length:Nat):Int)∧S.σ 4=fnG g ∧
     S.σ 18=vint M∧S.σ 19=vint ((M+(P.length+U.length):Nat):Int)∧S.σ 20=vint s0∧S.σ 21=vint r0) ?_ ?_
   ·by_cases hgt:M < P.length+U.length
    ·have w6:IntKind.i64.wrap (((M+(P.length+U.length):Nat):Int) - ((P.length+U.length+W.length:Nat):Int))=((M+(P.length+U.length) - (P.length+U.length+W.length):Nat):Int):=by rw [wrap_id (by omega) (by omega)];omega
     simp only [↓rA,rB,buildOk,nt_is,simprocAttr,tbGU1,Tryz.results109,Int.ofNat_lt,hgt,w6]
     refine⟨_,M,?_,rfl,rfl⟩
     omega
    ·simp only [↓rA,rB,buildOk,nt_is,simprocAttr,tbGU1,Tryz.results109,Int.ofNat_lt,hgt]
     refine⟨P.length,P.length+U.length,?_,rfl,rfl⟩
     omega
   rintro S ⟨s0,r0,⟨q1,q2,q3,q4,q5,q6,q7⟩,gb,gr,g0,g1,g2,g3,g4,g18,g19,g20,g21⟩
   rw [EX_seq]
   simp only [↓EX_end,↓EX_skip,↓EX_label,↓EX_block,↓EX_blk,↓EX_scope,↓EX_sc,↓EX_stop,↓EX_exit,↓EX_ret,↓EX_cond,↓EX_region,↓EX_draw,↓EX_loopleaf,↓EX_rangeleaf,↓XI_end,↓XI_code,↓XI_ops,↓XI_stop,↓XI_sc,↓XI_same,↓XI_other,↓EX_ops_nil,↓EX_plain,↓EX_guard,↓EX_dplain,↓EX_dguard,↓EX_gsoft,↓EX_gsoftg,↓EX_g_alloc,↓EX_g_box,↓EX_g_store,↓EX_g_append,↓EX_g_copy,↓EX_g_call,↓callR_func,↓EX_x_call,↓EX_x_buildSlice,↓callX_func,↓callX_yield,↓EX_h_makeMap,↓EX_h_lookup,↓EX_h_mapUpdate,↓ST_makeMap,↓ST_lookup,↓ST_mapUpdate,↓ST_insert,↓ST_makeInterface,↓ST_invoke,↓ST_mapEntry,↓ST_entryStore,↓ST_range,↓ST_next,↓ST_entry,↓makeMapK_eq,↓makeMapK_eqr,↓lookK_eq,↓lookD_nil,↓lookD_nil',↓lookD_box,↓lookD_box',↓updK_eq,↓updD_box,↓ifaceK_eq,↓invK_iface,↓mentK_eq,↓mentD_box,↓estD_box,↓rangeK_eq,↓rangeD_box,↓nextK_it,↓entryK_it,↓ST_move,↓ST_assign,↓ST_pick,↓ST_load,↓ST_fieldAddr,↓ST_field,↓ST_indexAddr,↓ST_index,↓ST_binOp,↓ST_unOp,↓ST_convert,↓ST_dconvert,↓ST_gconvert,↓ST_extract,↓ST_slice,↓ST_build,↓ST_nil,↓ST_len,↓ST_tlen,↓ST_glen,↓ST_max,↓ST_min,↓ST_call,↓ST_dcall,↓ST_gcall,↓ST_makeFunc,↓ST_alloc,↓ST_box,↓ST_store,↓ST_buildSlice,↓ST_dbuildSlice,↓ST_append,↓ST_copy,↓ST_clear,↓ST_makeSlice,↓ST_cap,↓EX_h_alloc,↓EX_h_box,↓EX_h_store,↓EX_h_append,↓EX_h_makeSlice,↓EX_h_copy,↓loadK_eq,↓partK_eq,↓fieldAddrK_eq,↓zeroP_ptr,↓fieldK_eq,↓idxAddrD_slice,↓idxAddrD_array,↓idxAddrK_eq,↓idxD_string,↓idxD_array,↓idxK_eq,↓convD_int,↓convD_string,↓convK_eq,↓convE_int,↓convE_string,↓convE_bytes,↓convE_str,↓strB_lit,↓convB_eq,↓bytesD_nil,↓bytesD_box,↓bytesD_list,↓lenD_string,↓lenD_slice,↓lenK_eq,↓lenE_map,↓lenE_string,↓lenE_slice,↓lenQ_eq,↓lenM_box,↓sliceD_string,↓sliceD_slice,↓sliceD_slice3,↓sliceK_eq,↓buildK_eq,↓funcK_eq,↓loadD_agg,↓loadD_one,↓partD_agg,↓partD_one,↓allocK_eq,↓boxK_eq,↓storeK_eq,↓buildSliceK_eq,↓buildAny_zero,↓buildAny_cons,↓buildSliceD_eq,↓appendK_eq,↓appSK_eq,↓capK_eq,↓srcK_eq,↓appMK_eq,↓appAK_eq,↓copyK_eq,↓clearK_eq,↓AllV_eq,↓retQ_ret,↓retQ_normal,↓retK,↓resV_nil,↓resV_tmp,↓resV_cell,getN_same,getN_other,natPos,td1,td2,td3,keep_σ,keep_boxes,keep_rows,nilRow_same,nilRow_ne,nilRow_boxes,nilRow_rows,onVal_eq,onB_t,onB_f,nat0,dropB_σ,dropB_boxes,dropB_rows,onMapT_some,onM_some,onI_some,onFind_some,onFind_none,onEnt_some,onEnt_none,mapOf_map,getM_same,getM_other,getI_same,getI_other,setX_same,setX_other,valV_agg,valV_str,valV_int,keyV_lit,keyV_agg,keyS_agg,keyS_str,keyS_int,addB_σ,addB_boxes,addB_rows,onMode_0,onMode_1,onMode_2,onMode_3,onMode_4,modeOf_nil,modeOf_cons,ncall,Todo_eq,put_eq,put_ne,put_none,put_boxes,put_rows,addBox_σ,addBox_boxes,addBox_rows,addRow_σ,addRow_boxes,addRow_rows,setBoxes_σ,setBoxes_boxes,setBoxes_rows,setRows_σ,setRows_boxes,setRows_rows,S0_σ,S0_boxes,S0_rows,ev_tmp,ev_const,ev_global,gvL_nil,gvL_cons,globs_is,ev_func,guardV_eq,getB_same,getB_other,setB_same,setB_other,packV,soft_move,soft_assign,soft_pick,soft_load,soft_fieldAddr,soft_field,soft_indexAddr,soft_index,soft_binOp,soft_unOp,soft_convert,soft_extract,soft_slice,soft_build,soft_nil,soft_buildSlice,soft_makeFunc,soft_callv,soft_len,soft_cap,soft_max,soft_min,onSome_some,onInt_int,onStr_str,onAgg_agg,onTup_tup,onHead_cons,onBool_bool,onGuard_tt,onGuard_ft,onGuard_tf,onGuard_ff,onGuard_skip,onCond_t,onCond_f,onL_list,onL_nil,onS_list,onS_nil,onS_box,capD_slice,bnd_none,bnd_int,shiftP_ref,shiftP_ptr,atP_ref,atP_ptr,posK_succ,posK_zero,bxOf_f,buildOk,binK_int,binK_str,binK_bool,boolOf_bool,binK_nil,binK_lnil,notNil_some,notNil_none,nilQ_eq,binK_agg,EqK_eql',EqK_neq',eqTB,litB,litV,fitL,fit,veqL,veq,unK_lit,nilK_ptr,nilK_ref,nilK_func,maxK_max,maxK_min,onPtr_ptr,sliceOf_slice,appD_nil,appD_own,srcD_list,srcD_nil,srcD_box,srcD_str,appMD_box,appAD_nil,appAD_box,copyD_nil,copyD_box,clrD_nil,clrD_box,makeSliceK_int,appendAny_own,appendAny_ownN,appendAny_ownS,appendAny_nil,appendAny_zeros,appendAny_list,appendAny_slice,appendAny_str,If2_t,If2_f,takeRF_single,callE_func,callE_yield,callK_func,And2_true,sbin,sun,nilB,cellsV,oneB,okC,vals,fillV,partsE,nt_is,Int.le_refl,Nat.sub_zero,Nat.zero_le,Nat.le_refl,eq_self,and_true,true_and,and_self,if_true,if_false,false_and,and_false,or_false,false_or,or_true,true_or,not_true_eq_false,not_false_eq_true,decide_true,decide_false,decide_eq_true_eq,Option.some.injEq,reduceCtorEq,Bool.false_eq_true,ne_eq,List.getD_cons_zero,List.getD_cons_succ,List.getD_nil,List.getElem?_cons_zero,List.getElem?_cons_succ,List.getElem?_nil,Option.bind_some,Option.bind_none,Option.map_some,Option.map_none,Option.isSome_some,Option.isSome_none,Option.isNone_some,Option.isNone_none,List.map_cons,List.map_nil,List.take_succ_cons,List.take_zero,List.take_nil,List.drop_succ_cons,List.drop_zero,List.drop_nil,List.length_cons,List.length_nil,List.cons_append,List.nil_append,List.append_nil,List.filter_nil,List.filter_cons,List.any_nil,List.any_cons,List.all_nil,List.all_cons,List.toList_toArray,Nat.add_zero,Nat.zero_add,Bool.not_true,Bool.not_false,Bool.true_and,Bool.and_true,Bool.or_false,Bool.false_or,Bool.and_false,Bool.false_and,Bool.or_true,Bool.true_or,implies_true,Nat.reduceLT,Nat.reduceLeDiff,Nat.reduceEqDiff,Nat.reduceAdd,Nat.reduceSub,Nat.reduceMul,Int.reduceToNat,Int.reduceLE,Int.reduceLT,Int.reduceEq,Int.toNat_natCast,Int.natCast_nonneg,tbGU1,Tryz.results109,gb,gr,g0,g1,g2,g3,g4,g18,g19,g20,g21,w5]
   clear w1 w2 w4 w5 h1' h2'
   rw [EX_seq]
   refine EX_cut (fun S=>∃ s:Nat,(s0≤s∧s≤r0∧LoS cf U W P.length M s0 s∧HiS cf U W P.length M r0 s) ∧
     S.boxes=[(b,.c ((l.map c).flatten++rest))]∧S.rows=[]∧S.σ 0=.lit (.slice (some ⟨b,0,none⟩) l.length cap)∧S.σ 1=vint P.length∧S.σ 2=vint ((P.length+U.length:Nat):Int)∧S.σ 3=vint ((P.length+U.length+W.length:Nat):Int)∧S.σ 4=fnG g ∧
     S.σ 18=vint M∧S.σ 19=vint ((M+(P.length+U.length):Nat):Int)∧S.σ 20=vint s) ?_ ?_
   ·simp only [↓rA,rB,buildOk,nt_is,simprocAttr,tbGU1,Tryz.results109]
    refine EX_while Ty.mixed (by kernel_rfl) (fun x=>x.2 - x.1) (fun(x:Nat × Nat) S=>(s0≤x.1∧x.1≤x.2∧x.2≤r0∧LoS cf U W P.length M s0 x.1∧HiS cf U W P.length M r0 x.2) ∧
     S.boxes=[(b,.c ((l.map c).flatten++rest))]∧S.rows=[]∧S.σ 0=.lit (.slice (some ⟨b,0,none⟩) l.length cap)∧S.σ 1=vint P.length∧S.σ 2=vint ((P.length+U.length:Nat):Int)∧S.σ 3=vint ((P.length+U.length+W.length:Nat):Int)∧S.σ 4=fnG g ∧
     S.σ 18=vint M∧S.σ 19=vint ((M+(P.length+U.length):Nat):Int)∧S.σ 20=vint x.1∧S.σ 21=vint x.2∧S.σ 22=vint ((M+(P.length+U.length) - 1:Nat):Int)) (s0,r0) ⟨0,?_⟩ (fun⟨s,r⟩ S ⟨⟨p1,p2,p3,p4,p5⟩,gb,gr,g0,g1,g2,g3,g4,g18,g19,g20,g21,g22⟩=>?_)
    ·simp only [↓rA,rB,buildOk,nt_is,simprocAttr,tbGU1,Tryz.results109,gb,gr,g0,g1,g2,g3,g4,g18,g19,g20,g21]
     exact⟨q1,.inl rfl,.inl rfl⟩
    ·rename_i hx0;clear hx0
     simp only at p1 p2 p3 p4 p5 g20 g21 ⊢
     by_cases hlt:s < r
     ·generalize hhd:(s+r) / 2=h
      have hi1:M+(P.length+U.length) - 1 - h < l.length:=by omega
      have hi2:h < l.length:=by omega
      have hW:M - h - 1 < W.length:=by omega
      have hU':h - P.length < U.length:=by omega
      have w6:IntKind.i64.wrap (((M+(P.length+U.length) - 1:Nat):Int) - (h:Int))=((M+(P.length+U.length) - 1 - h:Nat):Int):=by rw [wrap_id (by omega) (by omega)];omega
      have c1:=get_cells hc l rest _ hi1
      have c2:=get_cells hc l rest _ hi2
      rw [get_mid (A:=P++U) (B:=W) (C:=Q) (by rw [he];simp) (t:=M - h - 1) (by simp;omega) hW hi1] at c1
      rw [get_mid (A:=P) (B:=U) (C:=W++Q) he (t:=h - P.length) (by omega) hU' hi2] at c2
      have d1:=left_cells hc l rest _ hi1
      have d2:=left_cells hc l rest _ hi2
      have w7:=wrap_succ (i:=h) (N:=4500000) (by omega) (by omega)
      have hm':=mid_eq (i:=s) (k:=r) (by omega) (by omega)
      rw [hhd] at hm'
      simp only [↓rA,rB,buildOk,nt_is,simprocAttr,tbGU1,Tryz.results109,gb,gr,g0,g1,g2,g3,g4,g18,g19,g20,g21,g22,Int.ofNat_lt,hlt,hm',w6,hi1,hi2,c1,c2,d1,d2,Int.toNat_natCast,Int.natCast_nonneg,hg]
      refine CallV_of _ (hcmp _ _).v ?_
      by_cases hc0:cf W[M - h - 1] U[h - P.length] < 0
      ·simp only [↓rA,rB,buildOk,nt_is,simprocAttr,tbGU1,Tryz.results109,gb,gr,g0,g1,g2,g3,g4,g18,g19,g20,g21,g22,hm',hc0]
       clear hm'
       refine⟨(s,h),by simp only;omega,0,⟨p1,by simp only;omega,by simp only;omega,p4,.inr ⟨by simp only;omega,hU',hW,hc0⟩⟩,rfl,rfl,rfl⟩
      ·simp only [↓rA,rB,buildOk,nt_is,simprocAttr,tbGU1,Tryz.results109,gb,gr,g0,g1,g2,g3,g4,g18,g19,g20,g21,g22,hm',hc0,w7]
       clear hm'
       refine⟨(h+1,r),by simp only;omega,0,⟨by simp only;omega,by simp only;omega,p3,.inr ⟨by simp only;omega,hU',hW,hP.le_of_not hc0⟩,p5⟩,rfl,rfl,rfl⟩
     ·obtain rfl:s=r:=by omega
      simp only [↓rA,rB,buildOk,nt_is,simprocAttr,tbGU1,Tryz.results109,gb,gr,g0,g1,g2,g3,g4,g18,g19,g20,g21,g22,Int.ofNat_lt,Nat.lt_irrefl]
      exact⟨s,⟨p1,p3,p4,p5⟩,rfl⟩
   rintro S ⟨s,⟨p1,p2,p4,p5⟩,gb,gr,g0,g1,g2,g3,g4,g18,g19,g20⟩
   obtain⟨u1,u2,eu,hu1⟩:∃ u1 u2,U=u1++u2∧u1.length=s - P.length:=⟨U.take (s - P.length),U.drop (s - P.length),(List.take_append_drop _ _).symm,by rw [List.length_take];omega⟩
   obtain⟨v1,v2,ev,hv1⟩:∃ v1 v2,W=v1++v2∧v1.length=M - s:=⟨W.take (M - s),W.drop (M - s),(List.take_append_drop _ _).symm,by rw [List.length_take];omega⟩
   have lu:U.length=u1.length+u2.length:=by rw [eu];simp
   have lv:W.length=v1.length+v2.length:=by rw [ev];simp
   have x1:u1=[]∨v2=[]∨∃ u' a b v',u1=u'++[a]∧v2=b::v'∧cf a b≤0:=by
    rcases p4 with e | ⟨e,h1,h2,h3⟩
    ·rcases q6 with q6 | q6
     ·exact .inl (List.length_eq_zero_iff.1 (by omega))
     ·exact .inr (.inl (List.length_eq_zero_iff.1 (by omega)))
    ·have k1:s - 1 - P.length < u1.length:=by omega
     have k2:0 < v2.length:=by omega
     refine .inr (.inr ⟨u1.take (s - 1 - P.length),U[s - 1 - P.length],W[M - s],v2.drop 1,?_,?_,h3⟩)
     ·have:U[s - 1 - P.length]=u1[s - 1 - P.length]:=by simp only [eu];rw [List.getElem_append_left k1]
      rw [this,← List.take_succ_eq_append_getElem k1,List.take_of_length_le (by omega)]
     ·have:W[M - s]=v2[0]:=by simp only [ev];rw [List.getElem_append_right (by omega)];simp only [hv1,Nat.sub_self]
      rw [this,← List.drop_eq_getElem_cons k2,List.drop_zero]
   have x2:v1=[]∨u2=[]∨∃ u' a b v',v1=u'++[a]∧u2=b::v'∧cf a b≤0:=by
    rcases p5 with e | ⟨e,h1,h2,h3⟩
    ·rcases q7 with q7 | q7
     ·exact .inl (List.length_eq_zero_iff.1 (by omega))
     ·exact .inr (.inl (List.length_eq_zero_iff.1 (by omega)))
    ·have k1:M - s - 1 < v1.length:=by omega
     have k2:0 < u2.length:=by omega
     refine .inr (.inr ⟨v1.take (M - s - 1),W[M - s - 1],U[s - P.length],u2.drop 1,?_,?_,by omega⟩)
     ·have:W[M - s - 1]=v1[M - s - 1]:=by simp only [ev];rw [List.getElem_append_left k1]
      rw [this,← List.take_succ_eq_append_getElem k1,List.take_of_length_le (by omega)]
     ·have:U[s - P.length]=u2[0]:=by simp only [eu];rw [List.getElem_append_right (by omega)];simp only [hu1,Nat.sub_self]
      rw [this,← List.drop_eq_getElem_cons k2,List.drop_zero]
   have sUV:Srt cf (u1++u2):=eu▸sU
   have sWV:Srt cf (v1++v2):=ev▸sW
   have hs1:s=P.length+u1.length:=by omega
   have hM1:M=P.length+u1.length+v1.length:=by omega
   have hE:M+(P.length+U.length) - s=P.length+U.length+v1.length:=by omega
   have w6:IntKind.i64.wrap (((M+(P.length+U.length):Nat):Int) - (s:Int))=((P.length+U.length+v1.length:Nat):Int):=by rw [wrap_id (by omega) (by omega)];omega
   rw [EX_seq]
   simp only [↓EX_end,↓EX_skip,↓EX_label,↓EX_block,↓EX_blk,↓EX_scope,↓EX_sc,↓EX_stop,↓EX_exit,↓EX_ret,↓EX_cond,↓EX_region,↓EX_draw,↓EX_loopleaf,↓EX_rangeleaf,↓XI_end,↓XI_code,↓XI_ops,↓XI_stop,↓XI_sc,↓XI_same,↓XI_other,↓EX_ops_nil,↓EX_plain,↓EX_guard,↓EX_dplain,↓EX_dguard,↓EX_gsoft,↓EX_gsoftg,↓EX_g_alloc,↓EX_g_box,↓EX_g_store,↓EX_g_append,↓EX_g_copy,↓EX_g_call,↓callR_func,↓EX_x_call,↓EX_x_buildSlice,↓callX_func,↓callX_yield,↓EX_h_makeMap,↓EX_h_lookup,↓EX_h_mapUpdate,↓ST_makeMap,↓ST_lookup,↓ST_mapUpdate,↓ST_insert,↓ST_makeInterface,↓ST_invoke,↓ST_mapEntry,↓ST_entryStore,↓ST_range,↓ST_next,↓ST_entry,↓makeMapK_eq,↓makeMapK_eqr,↓lookK_eq,↓lookD_nil,↓lookD_nil',↓lookD_box,↓lookD_box',↓updK_eq,↓updD_box,↓ifaceK_eq,↓invK_iface,↓mentK_eq,↓mentD_box,↓estD_box,↓rangeK_eq,↓rangeD_box,↓nextK_it,↓entryK_it,↓ST_move,↓ST_assign,↓ST_pick,↓ST_load,↓ST_fieldAddr,↓ST_field,↓ST_indexAddr,↓ST_index,↓ST_binOp,↓ST_unOp,↓ST_convert,↓ST_dconvert,↓ST_gconvert,↓ST_extract,↓ST_slice,↓ST_build,↓ST_nil,↓ST_len,↓ST_tlen,↓ST_glen,↓ST_max,↓ST_min,↓ST_call,↓ST_dcall,↓ST_gcall,↓ST_makeFunc,↓ST_alloc,↓ST_box,↓ST_store,↓ST_buildSlice,↓ST_dbuildSlice,↓ST_append,↓ST_copy,↓ST_clear,↓ST_makeSlice,↓ST_cap,↓EX_h_alloc,↓EX_h_box,↓EX_h_store,↓EX_h_append,↓EX_h_makeSlice,↓EX_h_copy,↓loadK_eq,↓partK_eq,↓fieldAddrK_eq,↓zeroP_ptr,↓fieldK_eq,↓idxAddrD_slice,↓idxAddrD_array,↓idxAddrK_eq,↓idxD_string,↓idxD_array,↓idxK_eq,↓convD_int,↓convD_string,↓convK_eq,↓convE_int,↓convE_string,↓convE_bytes,↓convE_str,↓strB_lit,↓convB_eq,↓bytesD_nil,↓bytesD_box,↓bytesD_list,↓lenD_string,↓lenD_slice,↓lenK_eq,↓lenE_map,↓lenE_string,↓lenE_slice,↓lenQ_eq,↓lenM_box,↓sliceD_string,↓sliceD_slice,↓sliceD_slice3,↓sliceK_eq,↓buildK_eq,↓funcK_eq,↓loadD_agg,↓loadD_one,↓partD_agg,↓partD_one,↓allocK_eq,↓boxK_eq,↓storeK_eq,↓buildSliceK_eq,↓buildAny_zero,↓buildAny_cons,↓buildSliceD_eq,↓appendK_eq,↓appSK_eq,↓capK_eq,↓srcK_eq,↓appMK_eq,↓appAK_eq,↓copyK_eq,↓clearK_eq,↓AllV_eq,↓retQ_ret,↓retQ_normal,↓retK,↓resV_nil,↓resV_tmp,↓resV_cell,getN_same,getN_other,natPos,td1,td2,td3,keep_σ,keep_boxes,keep_rows,nilRow_same,nilRow_ne,nilRow_boxes,nilRow_rows,onVal_eq,onB_t,onB_f,nat0,dropB_σ,dropB_boxes,dropB_rows,onMapT_some,onM_some,onI_some,onFind_some,onFind_none,onEnt_some,onEnt_none,mapOf_map,getM_same,getM_other,getI_same,getI_other,setX_same,setX_other,valV_agg,valV_str,valV_int,keyV_lit,keyV_agg,keyS_agg,keyS_str,keyS_int,addB_σ,addB_boxes,addB_rows,onMode_0,onMode_1,onMode_2,onMode_3,onMode_4,modeOf_nil,modeOf_cons,ncall,Todo_eq,put_eq,put_ne,put_none,put_boxes,put_rows,addBox_σ,addBox_boxes,addBox_rows,addRow_σ,addRow_boxes,addRow_rows,setBoxes_σ,setBoxes_boxes,setBoxes_rows,setRows_σ,setRows_boxes,setRows_rows,S0_σ,S0_boxes,S0_rows,ev_tmp,ev_const,ev_global,gvL_nil,gvL_cons,globs_is,ev_func,guardV_eq,getB_same,getB_other,setB_same,setB_other,packV,soft_move,soft_assign,soft_pick,soft_load,soft_fieldAddr,soft_field,soft_indexAddr,soft_index,soft_binOp,soft_unOp,soft_convert,soft_extract,soft_slice,soft_build,soft_nil,soft_buildSlice,soft_makeFunc,soft_callv,soft_len,soft_cap,soft_max,soft_min,onSome_some,onInt_int,onStr_str,onAgg_agg,onTup_tup,onHead_cons,onBool_bool,onGuard_tt,onGuard_ft,onGuard_tf,onGuard_ff,onGuard_skip,onCond_t,onCond_f,onL_list,onL_nil,onS_list,onS_nil,onS_box,capD_slice,bnd_none,bnd_int,shiftP_ref,shiftP_ptr,atP_ref,atP_ptr,posK_succ,posK_zero,bxOf_f,buildOk,binK_int,binK_str,binK_bool,boolOf_bool,binK_nil,binK_lnil,notNil_some,notNil_none,nilQ_eq,binK_agg,EqK_eql',EqK_neq',eqTB,litB,litV,fitL,fit,veqL,veq,unK_lit,nilK_ptr,nilK_ref,nilK_func,maxK_max,maxK_min,onPtr_ptr,sliceOf_slice,appD_nil,appD_own,srcD_list,srcD_nil,srcD_box,srcD_str,appMD_box,appAD_nil,appAD_box,copyD_nil,copyD_box,clrD_nil,clrD_box,makeSliceK_int,appendAny_own,appendAny_ownN,appendAny_ownS,appendAny_nil,appendAny_zeros,appendAny_list,appendAny_slice,appendAny_str,If2_t,If2_f,takeRF_single,callE_func,callE_yield,callK_func,And2_true,sbin,sun,nilB,cellsV,oneB,okC,vals,fillV,partsE,nt_is,Int.le_refl,Nat.sub_zero,Nat.zero_le,Nat.le_refl,eq_self,and_true,true_and,and_self,if_true,if_false,false_and,and_false,or_false,false_or,or_true,true_or,not_true_eq_false,not_false_eq_true,decide_true,decide_false,decide_eq_true_eq,Option.some.injEq,reduceCtorEq,Bool.false_eq_true,ne_eq,List.getD_cons_zero,List.getD_cons_succ,List.getD_nil,List.getElem?_cons_zero,List.getElem?_cons_succ,List.getElem?_nil,Option.bind_some,Option.bind_none,Option.map_some,Option.map_none,Option.isSome_some,Option.isSome_none,Option.isNone_some,Option.isNone_none,List.map_cons,List.map_nil,List.take_succ_cons,List.take_zero,List.take_nil,List.drop_succ_cons,List.drop_zero,List.drop_nil,List.length_cons,List.length_nil,List.cons_append,List.nil_append,List.append_nil,List.filter_nil,List.filter_cons,List.any_nil,List.any_cons,List.all_nil,List.all_cons,List.toList_toArray,Nat.add_zero,Nat.zero_add,Bool.not_true,Bool.not_false,Bool.true_and,Bool.and_true,Bool.or_false,Bool.false_or,Bool.and_false,Bool.false_and,Bool.or_true,Bool.true_or,implies_true,Nat.reduceLT,Nat.reduceLeDiff,Nat.reduceEqDiff,Nat.reduceAdd,Nat.reduceSub,Nat.reduceMul,Int.reduceToNat,Int.reduceLE,Int.reduceLT,Int.reduceEq,Int.toNat_natCast,Int.natCast_nonneg,tbGU1,Tryz.results109,gb,gr,g0,g1,g2,g3,g4,g18,g19,g20,w6]
   rw [EX_seq]
   refine EX_cut (fun S=>S.boxes=[(b,.c (((P++(u1++(v1++(u2++(v2++Q))))).map c).flatten++rest))]∧S.rows=[]∧S.σ 0=.lit (.slice (some ⟨b,0,none⟩) l.length cap)∧S.σ 1=vint P.length∧S.σ 3=vint ((P.length+U.length+W.length:Nat):Int)∧S.σ 4=fnG g ∧
     S.σ 18=vint M∧S.σ 20=vint s∧S.σ 24=vint ((P.length+U.length+v1.length:Nat):Int)) ?_ ?_
   ·by_cases hu2:u2=[]
    ·have n1:¬ s < P.length+U.length:=by rw [hu2] at lu;simp at lu;omega
     simp only [↓rA,rB,buildOk,nt_is,simprocAttr,tbGU1,Tryz.results109,gb,gr,g0,g1,g2,g3,g4,g18,g19,g20,Int.ofNat_lt,n1]
     rw [he,eu,ev,hu2]
     simp only [List.append_nil,List.nil_append,List.append_assoc]
    ·have k2:0 < u2.length:=List.length_pos_iff.2 hu2
     have n1:s < P.length+U.length:=by omega
     by_cases hv1':v1=[]
     ·have n2:¬ P.length+U.length < P.length+U.length+v1.length:=by rw [hv1'];simp
      simp only [↓rA,rB,buildOk,nt_is,simprocAttr,tbGU1,Tryz.results109,gb,gr,g0,g1,g2,g3,g4,g18,g19,g20,Int.ofNat_lt,n1,n2]
      rw [he,eu,ev,hv1']
      simp only [List.append_nil,List.nil_append,List.append_assoc]
     ·have k1:0 < v1.length:=List.length_pos_iff.2 hv1'
      have n2:P.length+U.length < P.length+U.length+v1.length:=by omega
      simp only [↓rA,rB,buildOk,nt_is,simprocAttr,tbGU1,Tryz.results109,gb,gr,g0,g1,g2,g3,g4,g18,g19,g20,Int.ofNat_lt,n1,n2]
      refine OkF_with [_] [] (List.Perm.refl _) (?_:Ok _ _ _ _ (fun v bs rs=>v=.tup []∧rs=[]∧bs=[(b,.c (((P++(u1++(v1++(u2++(v2++Q))))).map c).flatten++rest))])) ?_
      ·have:=rotate_ok hc ho b cap (fnG g) l rest (P++u1) u2 v1 (v2++Q) (by rw [he,eu,ev];simp) hu2 hv1' hl hcap
       have e1:(P++u1).length=s:=by simp;omega
       have e2:s+u2.length=P.length+U.length:=by omega
       rw [e1,e2] at this
       simpa only [List.append_assoc] using this
      rintro v bs rs ⟨rfl,rfl,rfl⟩
      simp only [↓rA,rB,buildOk,nt_is,simprocAttr,tbGU1,Tryz.results109,gb,gr,g0,g1,g2,g3,g4,g18,g19,g20]
   rintro S ⟨gb,gr,g0,g1,g3,g4,g18,g20,g24⟩
   have hlen:(P++(u1++(v1++(u2++(v2++Q))))).length=l.length:=by simp;omega
   rw [EX_seq]
   refine EX_cut (fun S=>∃ y1,y1.Perm (u1++v1)∧Srt cf y1∧S.boxes=[(b,.c (((P++(y1++(u2++(v2++Q)))).map c).flatten++rest))]∧S.rows=[]∧S.σ 0=.lit (.slice (some ⟨b,0,none⟩) l.length cap)∧S.σ 3=vint ((P.length+U.length+W.length:Nat):Int)∧S.σ 4=fnG g ∧
     S.σ 18=vint M∧S.σ 24=vint ((P.length+U.length+v1.length:Nat):Int)) ?_ ?_
   ·by_cases hu1':u1=[]
    ·have n1:¬ P.length < s:=by rw [hu1'] at hs1;simp at hs1;omega
     simp only [↓rA,rB,buildOk,nt_is,simprocAttr,tbGU1,Tryz.results109,gb,gr,g0,g1,g3,g4,g18,g20,g24,Int.ofNat_lt,n1]
     refine⟨v1,by rw [hu1'];exact List.Perm.refl _,sWV.left,?_⟩
     rw [hu1'];simp only [List.append_nil,List.nil_append,List.append_assoc]
    ·have k2:0 < u1.length:=List.length_pos_iff.2 hu1'
     have n1:P.length < s:=by omega
     by_cases hv1':v1=[]
     ·have n2:¬ s < M:=by rw [hv1'] at hM1;simp at hM1;omega
      simp only [↓rA,rB,buildOk,nt_is,simprocAttr,tbGU1,Tryz.results109,gb,gr,g0,g1,g3,g4,g18,g20,g24,Int.ofNat_lt,n1,n2]
      refine⟨u1,by rw [hv1',List.append_nil],sUV.left,?_⟩
      rw [hv1'];simp only [List.append_nil,List.nil_append,List.append_assoc]
     ·have k1:0 < v1.length:=List.length_pos_iff.2 hv1'
      have n2:s < M:=by omega
      simp only [↓rA,rB,buildOk,nt_is,simprocAttr,tbGU1,Tryz.results109,gb,gr,g0,g1,g3,g4,g18,g20,g24,Int.ofNat_lt,n1,n2]
      rw [← hlen]
      refine OkF_with [_] [] (List.Perm.refl _) (?_:Ok _ _ _ _ (fun v bs rs=>v=.tup []∧rs=[]∧∃ Y,Y.Perm (u1++v1)∧Srt cf Y∧bs=[(b,.c (((P++(Y++(u2++(v2++Q)))).map c).flatten++rest))])) ?_
      ·have:=ih (P++(u1++(v1++(u2++(v2++Q))))) P u1 v1 (u2++(v2++Q)) (by omega) rfl hu1' hv1' sUV.left sWV.left (by omega) (by omega)
       rw [hs1,hM1]
       exact this
      rintro v bs rs ⟨rfl,rfl,Y,hY,sY,rfl⟩
      simp only [↓rA,rB,buildOk,nt_is,simprocAttr,tbGU1,Tryz.results109,gb,gr,g0,g1,g3,g4,g18,g20,g24]
      rw [hlen]
      exact⟨Y,hY,sY,rfl,rfl⟩
   rintro S ⟨y1,hy1,sy1,gb,gr,g0,g3,g4,g18,g24⟩
   have ly1:y1.length=u1.length+v1.length:=by rw [hy1.length_eq];simp
   have hlen:(P++(y1++(u2++(v2++Q)))).length=l.length:=by simp;omega
   have hperm:∀ {y2},y2.Perm (u2++v2)→(y1++y2).Perm (U++W):=fun hy2=>(hy1.append hy2).trans (by
    rw [eu,ev]
    simp only [List.append_assoc]
    refine List.Perm.append_left u1 ?_
    rw [← List.append_assoc,← List.append_assoc]
    exact List.Perm.append_right v2 List.perm_append_comm)
   have hjoin:∀ {y2},y2.Perm (u2++v2)→Srt cf y2→Srt cf (y1++y2):=fun hy2 sy2=>srt_join hP sUV sWV x1 x2 hy1 hy2 sy1 sy2
   by_cases hu2:u2=[]
   ·have n1:¬ M < P.length+U.length+v1.length:=by rw [hu2] at lu;simp at lu;omega
    simp only [↓rA,rB,buildOk,nt_is,simprocAttr,tbGU1,Tryz.results109,gb,gr,g0,g3,g4,g18,g24,Int.ofNat_lt,n1]
    exact⟨_,[_],[],Le.refl _,List.Sublist.refl _,List.nil_sublist _,rfl,rfl,y1++v2,hperm (by rw [hu2];exact List.Perm.refl _),hjoin (by rw [hu2];exact List.Perm.refl _) sWV.right,by rw [hu2];simp only [List.append_nil,List.nil_append,List.append_assoc]⟩
   ·have k2:0 < u2.length:=List.length_pos_iff.2 hu2
    have n1:M < P.length+U.length+v1.length:=by omega
    by_cases hv2:v2=[]
    ·have n2:¬ P.length+U.length+v1.length < P.length+U.length+W.length:=by rw [hv2] at lv;simp at lv;omega
     simp only [↓rA,rB,buildOk,nt_is,simprocAttr,tbGU1,Tryz.results109,gb,gr,g0,g3,g4,g18,g24,Int.ofNat_lt,n1,n2]
     exact⟨_,[_],[],Le.refl _,List.Sublist.refl _,List.nil_sublist _,rfl,rfl,y1++u2,hperm (by rw [hv2,List.append_nil]),hjoin (by rw [hv2,List.append_nil]) sUV.right,by rw [hv2];simp only [List.append_nil,List.nil_append,List.append_assoc]⟩
    ·have k1:0 < v2.length:=List.length_pos_iff.2 hv2
     have n2:P.length+U.length+v1.length < P.length+U.length+W.length:=by omega
     simp only [↓rA,rB,buildOk,nt_is,simprocAttr,tbGU1,Tryz.results109,gb,gr,g0,g3,g4,g18,g24,Int.ofNat_lt,n1,n2]
     rw [← hlen]
     refine OkF_with [_] [] (List.Perm.refl _) (?_:Ok _ _ _ _ (fun v bs rs=>v=.tup []∧rs=[]∧∃ Y,Y.Perm (u2++v2)∧Srt cf Y∧bs=[(b,.c (((P++(y1++(Y++Q))).map c).flatten++rest))])) ?_
     ·have:=ih (P++(y1++(u2++(v2++Q)))) (P++y1) u2 v2 Q (by omega) (by simp) hu2 hv2 sUV.right sWV.right (by omega) (by omega)
      have e1:(P++y1).length=M:=by simp;omega
      have e2:M+u2.length=P.length+U.length+v1.length:=by omega
      have e3:P.length+U.length+v1.length+v2.length=P.length+U.length+W.length:=by omega
      rw [e1,e2,e3] at this
      simpa only [List.append_assoc] using this
     rintro v bs rs ⟨rfl,rfl,Y,hY,sY,rfl⟩
     simp only [↓rA,rB,buildOk,nt_is,simprocAttr,tbGU1,Tryz.results109,gb,gr,g0,g3,g4,g18,g24]
     exact⟨_,[_],[],Le.refl _,List.Sublist.refl _,List.nil_sublist _,rfl,rfl,y1++Y,hperm hY,hjoin hY sY,by simp only [List.append_assoc]⟩
end Go.Proofs.YtjdggbanifineaaGreat
set_option linter.unusedSimpArgs false
set_option maxRecDepth 100000
set_option linter.defProp false
namespace Go.Proofs.YtjdggbanifineaaGreat
open Go.VL Go.Ar Go.Proofs.YtjdggbanifineaaGreat Go.Proofs.YtjdggbanifineaaGreat.Arr
def Blk {α:Type} (cf:α→α→Int) (n:Nat) (L:List (List α)):Prop:=∀ s ∈ L,s.length=n∧Srt cf s
theorem Blk.len {α:Type} {cf:α→α→Int} {n:Nat}:∀ {L:List (List α)},Blk cf n L→L.flatten.length=L.length * n
 | [],_=>by simp
 | s::L,h=>by
  have h1:=(h s List.mem_cons_self).1
  have h2:=Blk.len (L:=L) fun t ht=>h t (List.mem_cons_of_mem _ ht)
  rw [List.flatten_cons,List.length_append,h1,h2,List.length_cons,Nat.succ_mul];omega
theorem Blk.snoc {α:Type} {cf:α→α→Int} {n:Nat} {L:List (List α)} {s:List α} (h:Blk cf n L) (h1:s.length=n) (h2:Srt cf s):Blk cf n (L++[s]):=fun t ht=>by
 rcases List.mem_append.1 ht with ht | ht
 ·exact h t ht
 ·rw [List.mem_singleton.1 ht];exact⟨h1,h2⟩
def tbGV0:=(aI (aI (aI Ty.c108 Ty.c109) (aI Ty.t22 (aI Ty.t26 Ty.t28))) (aI (aI Ty.t3 Ty.t30) (aI Ty.t4 (aI Ty.t9 Ty.t99))))
set_option maxHeartbeats 2000000 in
theorem stable_ok {α:Type} {c:α→List V} (hc:∀ x,(c x).length=9) (ho:∀ x,okC (c x)=true) {cf:α→α→Int} (hP:Pre cf) (g:FuncId) (hg:callB Tryz.prog g=true) (hcmp:∀ x y,OkP Tryz.prog g [.agg (c x),.agg (c y)] (vint (cf x y)))
  (b cap:Nat) (l:List α) (rest:List V) (hl:l.length≤4000000) (hcap:l.length≤cap) :
  Ok Tryz.prog 88 [.lit (.slice (some ⟨b,0,none⟩) l.length cap),vint l.length,fnG g] [(b,.c ((l.map c).flatten++rest))] fun v bs rs =>
   v=.tup []∧rs=[]∧∃ l':List α,l'.Perm l∧Srt cf l'∧bs=[(b,.c ((l'.map c).flatten++rest))]:=by
 refine Ok.of_ex Ty.mixed Tryz.func88 rfl (by simp [Tryz.ntmps88]) (by kernel_rfl) fun F w0 I0=>?_
 simp only [↓EX_end,↓EX_skip,↓EX_label,↓EX_block,↓EX_blk,↓EX_scope,↓EX_sc,↓EX_stop,↓EX_exit,↓EX_ret,↓EX_cond,↓EX_region,↓EX_draw,↓EX_loopleaf,↓EX_rangeleaf,↓XI_end,↓XI_code,↓XI_ops,↓XI_stop,↓XI_sc,↓XI_same,↓XI_other,↓EX_ops_nil,↓EX_plain,↓EX_guard,↓EX_dplain,↓EX_dguard,↓EX_gsoft,↓EX_gsoftg,↓EX_g_alloc,↓EX_g_box,↓EX_g_store,↓EX_g_append,↓EX_g_copy,↓EX_g_call,↓callR_func,↓EX_x_call,↓EX_x_buildSlice,↓callX_func,↓callX_yield,↓EX_h_makeMap,↓EX_h_lookup,↓EX_h_mapUpdate,↓ST_makeMap,↓ST_lookup,↓ST_mapUpdate,↓ST_insert,↓ST_makeInterface,↓ST_invoke,↓ST_mapEntry,↓ST_entryStore,↓ST_range,↓ST_next,↓ST_entry,↓makeMapK_eq,↓makeMapK_eqr,↓lookK_eq,↓lookD_nil,↓lookD_nil',↓lookD_box,↓lookD_box',↓updK_eq,↓updD_box,↓ifaceK_eq,↓invK_iface,↓mentK_eq,↓mentD_box,↓estD_box,↓rangeK_eq,↓rangeD_box,↓nextK_it,↓entryK_it,↓ST_move,↓ST_assign,↓ST_pick,↓ST_load,↓ST_fieldAddr,↓ST_field,↓ST_indexAddr,↓ST_index,↓ST_binOp,↓ST_unOp,↓ST_convert,↓ST_dconvert,↓ST_gconvert,↓ST_extract,↓ST_slice,↓ST_build,↓ST_nil,↓ST_len,↓ST_tlen,↓ST_glen,↓ST_max,↓ST_min,↓ST_call,↓ST_dcall,↓ST_gcall,↓ST_makeFunc,↓ST_alloc,↓ST_box,↓ST_store,↓ST_buildSlice,↓ST_dbuildSlice,↓ST_append,↓ST_copy,↓ST_clear,↓ST_makeSlice,↓ST_cap,↓EX_h_alloc,↓EX_h_box,↓EX_h_store,↓EX_h_append,↓EX_h_makeSlice,↓EX_h_copy,↓loadK_eq,↓partK_eq,↓fieldAddrK_eq,↓zeroP_ptr,↓fieldK_eq,↓idxAddrD_slice,↓idxAddrD_array,↓idxAddrK_eq,↓idxD_string,↓idxD_array,↓idxK_eq,↓convD_int,↓convD_string,↓convK_eq,↓convE_int,↓convE_string,↓convE_bytes,↓convE_str,↓strB_lit,↓convB_eq,↓bytesD_nil,↓bytesD_box,↓bytesD_list,↓lenD_string,↓lenD_slice,↓lenK_eq,↓lenE_map,↓lenE_string,↓lenE_slice,↓lenQ_eq,↓lenM_box,↓sliceD_string,↓sliceD_slice,↓sliceD_slice3,↓sliceK_eq,↓buildK_eq,↓funcK_eq,↓loadD_agg,↓loadD_one,↓partD_agg,↓partD_one,↓allocK_eq,↓boxK_eq,↓storeK_eq,↓buildSliceK_eq,↓buildAny_zero,↓buildAny_cons,↓buildSliceD_eq,↓appendK_eq,↓appSK_eq,↓capK_eq,↓srcK_eq,↓appMK_eq,↓appAK_eq,↓copyK_eq,↓clearK_eq,↓AllV_eq,↓retQ_ret,↓retQ_normal,↓retK,↓resV_nil,↓resV_tmp,↓resV_cell,getN_same,getN_other,natPos,td1,td2,td3,keep_σ,keep_boxes,keep_rows,nilRow_same,nilRow_ne,nilRow_boxes,nilRow_rows,onVal_eq,onB_t,onB_f,nat0,dropB_σ,dropB_boxes,dropB_rows,onMapT_some,onM_some,onI_some,onFind_some,onFind_none,onEnt_some,onEnt_none,mapOf_map,getM_same,getM_other,getI_same,getI_other,setX_same,setX_other,valV_agg,valV_str,valV_int,keyV_lit,keyV_agg,keyS_agg,keyS_str,keyS_int,addB_σ,addB_boxes,addB_rows,onMode_0,onMode_1,onMode_2,onMode_3,onMode_4,modeOf_nil,modeOf_cons,ncall,Todo_eq,put_eq,put_ne,put_none,put_boxes,put_rows,addBox_σ,addBox_boxes,addBox_rows,addRow_σ,addRow_boxes,addRow_rows,setBoxes_σ,setBoxes_boxes,setBoxes_rows,setRows_σ,setRows_boxes,setRows_rows,S0_σ,S0_boxes,S0_rows,ev_tmp,ev_const,ev_global,gvL_nil,gvL_cons,globs_is,ev_func,guardV_eq,getB_same,getB_other,setB_same,setB_other,packV,soft_move,soft_assign,soft_pick,soft_load,soft_fieldAddr,soft_field,soft_indexAddr,soft_index,soft_binOp,soft_unOp,soft_convert,soft_extract,soft_slice,soft_build,soft_nil,soft_buildSlice,soft_makeFunc,soft_callv,soft_len,soft_cap,soft_max,soft_min,onSome_some,onInt_int,onStr_str,onAgg_agg,onTup_tup,onHead_cons,onBool_bool,onGuard_tt,onGuard_ft,onGuard_tf,onGuard_ff,onGuard_skip,onCond_t,onCond_f,onL_list,onL_nil,onS_list,onS_nil,onS_box,capD_slice,bnd_none,bnd_int,shiftP_ref,shiftP_ptr,atP_ref,atP_ptr,posK_succ,posK_zero,bxOf_f,buildOk,binK_int,binK_str,binK_bool,boolOf_bool,binK_nil,binK_lnil,notNil_some,notNil_none,nilQ_eq,binK_agg,EqK_eql',EqK_neq',eqTB,litB,litV,fitL,fit,veqL,veq,unK_lit,nilK_ptr,nilK_ref,nilK_func,maxK_max,maxK_min,onPtr_ptr,sliceOf_slice,appD_nil,appD_own,srcD_list,srcD_nil,srcD_box,srcD_str,appMD_box,appAD_nil,appAD_box,copyD_nil,copyD_box,clrD_nil,clrD_box,makeSliceK_int,appendAny_own,appendAny_ownN,appendAny_ownS,appendAny_nil,appendAny_zeros,appendAny_list,appendAny_slice,appendAny_str,If2_t,If2_f,takeRF_single,callE_func,callE_yield,callK_func,And2_true,sbin,sun,nilB,cellsV,oneB,okC,vals,fillV,partsE,nt_is,Int.le_refl,Nat.sub_zero,Nat.zero_le,Nat.le_refl,eq_self,and_true,true_and,and_self,if_true,if_false,false_and,and_false,or_false,false_or,or_true,true_or,not_true_eq_false,not_false_eq_true,decide_true,decide_false,decide_eq_true_eq,Option.some.injEq,reduceCtorEq,Bool.false_eq_true,ne_eq,List.getD_cons_zero,List.getD_cons_succ,List.getD_nil,List.getElem?_cons_zero,List.getElem?_cons_succ,List.getElem?_nil,Option.bind_some,Option.bind_none,Option.map_some,Option.map_none,Option.isSome_some,Option.isSome_none,Option.isNone_some,Option.isNone_none,List.map_cons,List.map_nil,List.take_succ_cons,List.take_zero,List.take_nil,List.drop_succ_cons,List.drop_zero,List.drop_nil,List.length_cons,List.length_nil,List.cons_append,List.nil_append,List.append_nil,List.filter_nil,List.filter_cons,List.any_nil,List.any_cons,List.all_nil,List.all_cons,List.toList_toArray,Nat.add_zero,Nat.zero_add,Bool.not_true,Bool.not_false,Bool.true_and,Bool.and_true,Bool.or_false,Bool.false_or,Bool.and_false,Bool.false_and,Bool.or_true,Bool.true_or,implies_true,Nat.reduceLT,Nat.reduceLeDiff,Nat.reduceEqDiff,Nat.reduceAdd,Nat.reduceSub,Nat.reduceMul,Int.reduceToNat,Int.reduceLE,Int.reduceLT,Int.reduceEq,Int.toNat_natCast,Int.natCast_nonneg,tbGV0,Tryz.results88]
 rw [EX_seq]
 simp only [↓EX_end,↓EX_skip,↓EX_label,↓EX_block,↓EX_blk,↓EX_scope,↓EX_sc,↓EX_stop,↓EX_exit,↓EX_ret,↓EX_cond,↓EX_region,↓EX_draw,↓EX_loopleaf,↓EX_rangeleaf,↓XI_end,↓XI_code,↓XI_ops,↓XI_stop,↓XI_sc,↓XI_same,↓XI_other,↓EX_ops_nil,↓EX_plain,↓EX_guard,↓EX_dplain,↓EX_dguard,↓EX_gsoft,↓EX_gsoftg,↓EX_g_alloc,↓EX_g_box,↓EX_g_store,↓EX_g_append,↓EX_g_copy,↓EX_g_call,↓callR_func,↓EX_x_call,↓EX_x_buildSlice,↓callX_func,↓callX_yield,↓EX_h_makeMap,↓EX_h_lookup,↓EX_h_mapUpdate,↓ST_makeMap,↓ST_lookup,↓ST_mapUpdate,↓ST_insert,↓ST_makeInterface,↓ST_invoke,↓ST_mapEntry,↓ST_entryStore,↓ST_range,↓ST_next,↓ST_entry,↓makeMapK_eq,↓makeMapK_eqr,↓lookK_eq,↓lookD_nil,↓lookD_nil',↓lookD_box,↓lookD_box',↓updK_eq,↓updD_box,↓ifaceK_eq,↓invK_iface,↓mentK_eq,↓mentD_box,↓estD_box,↓rangeK_eq,↓rangeD_box,↓nextK_it,↓entryK_it,↓ST_move,↓ST_assign,↓ST_pick,↓ST_load,↓ST_fieldAddr,↓ST_field,↓ST_indexAddr,↓ST_index,↓ST_binOp,↓ST_unOp,↓ST_convert,↓ST_dconvert,↓ST_gconvert,↓ST_extract,↓ST_slice,↓ST_build,↓ST_nil,↓ST_len,↓ST_tlen,↓ST_glen,↓ST_max,↓ST_min,↓ST_call,↓ST_dcall,↓ST_gcall,↓ST_makeFunc,↓ST_alloc,↓ST_box,↓ST_store,↓ST_buildSlice,↓ST_dbuildSlice,↓ST_append,↓ST_copy,↓ST_clear,↓ST_makeSlice,↓ST_cap,↓EX_h_alloc,↓EX_h_box,↓EX_h_store,↓EX_h_append,↓EX_h_makeSlice,↓EX_h_copy,↓loadK_eq,↓partK_eq,↓fieldAddrK_eq,↓zeroP_ptr,↓fieldK_eq,↓idxAddrD_slice,↓idxAddrD_array,↓idxAddrK_eq,↓idxD_string,↓idxD_array,↓idxK_eq,↓convD_int,↓convD_string,↓convK_eq,↓convE_int,↓convE_string,↓convE_bytes,↓convE_str,↓strB_lit,↓convB_eq,↓bytesD_nil,↓bytesD_box,↓bytesD_list,↓lenD_string,↓lenD_slice,↓lenK_eq,↓lenE_map,↓lenE_string,↓lenE_slice,↓lenQ_eq,↓lenM_box,↓sliceD_string,↓sliceD_slice,↓sliceD_slice3,↓sliceK_eq,↓buildK_eq,↓funcK_eq,↓loadD_agg,↓loadD_one,↓partD_agg,↓partD_one,↓allocK_eq,↓boxK_eq,↓storeK_eq,↓buildSliceK_eq,↓buildAny_zero,↓buildAny_cons,↓buildSliceD_eq,↓appendK_eq,↓appSK_eq,↓capK_eq,↓srcK_eq,↓appMK_eq,↓appAK_eq,↓copyK_eq,↓clearK_eq,↓AllV_eq,↓retQ_ret,↓retQ_normal,↓retK,↓resV_nil,↓resV_tmp,↓resV_cell,getN_same,getN_other,natPos,td1,td2,td3,keep_σ,keep_boxes,keep_rows,nilRow_same,nilRow_ne,nilRow_boxes,nilRow_rows,onVal_eq,onB_t,onB_f,nat0,dropB_σ,dropB_boxes,dropB_rows,onMapT_some,onM_some,onI_some,onFind_some,onFind_none,onEnt_some,onEnt_none,mapOf_map,getM_same,getM_other,getI_same,getI_other,setX_same,setX_other,valV_agg,valV_str,valV_int,keyV_lit,keyV_agg,keyS_agg,keyS_str,keyS_int,addB_σ,addB_boxes,addB_rows,onMode_0,onMode_1,onMode_2,onMode_3,onMode_4,modeOf_nil,modeOf_cons,ncall,Todo_eq,put_eq,put_ne,put_none,put_boxes,put_rows,addBox_σ,addBox_boxes,addBox_rows,addRow_σ,addRow_boxes,addRow_rows,setBoxes_σ,setBoxes_boxes,setBoxes_rows,setRows_σ,setRows_boxes,setRows_rows,S0_σ,S0_boxes,S0_rows,ev_tmp,ev_const,ev_global,gvL_nil,gvL_cons,globs_is,ev_func,guardV_eq,getB_same,getB_other,setB_same,setB_other,packV,soft_move,soft_assign,soft_pick,soft_load,soft_fieldAddr,soft_field,soft_indexAddr,soft_index,soft_binOp,soft_unOp,soft_convert,soft_extract,soft_slice,soft_build,soft_nil,soft_buildSlice,soft_makeFunc,soft_callv,soft_len,soft_cap,soft_max,soft_min,onSome_some,onInt_int,onStr_str,onAgg_agg,onTup_tup,onHead_cons,onBool_bool,onGuard_tt,onGuard_ft,onGuard_tf,onGuard_ff,onGuard_skip,onCond_t,onCond_f,onL_list,onL_nil,onS_list,onS_nil,onS_box,capD_slice,bnd_none,bnd_int,shiftP_ref,shiftP_ptr,atP_ref,atP_ptr,posK_succ,posK_zero,bxOf_f,buildOk,binK_int,binK_str,binK_bool,boolOf_bool,binK_nil,binK_lnil,notNil_some,notNil_none,nilQ_eq,binK_agg,EqK_eql',EqK_neq',eqTB,litB,litV,fitL,fit,veqL,veq,unK_lit,nilK_ptr,nilK_ref,nilK_func,maxK_max,maxK_min,onPtr_ptr,sliceOf_slice,appD_nil,appD_own,srcD_list,srcD_nil,srcD_box,srcD_str,appMD_box,appAD_nil,appAD_box,copyD_nil,copyD_box,clrD_nil,clrD_box,makeSliceK_int,appendAny_own,appendAny_ownN,appendAny_ownS,appendAny_nil,appendAny_zeros,appendAny_list,appendAny_slice,appendAny_str,If2_t,If2_f,takeRF_single,callE_func,callE_yield,callK_func,And2_true,sbin,sun,nilB,cellsV,oneB,okC,vals,fillV,partsE,nt_is,Int.le_refl,Nat.sub_zero,Nat.zero_le,Nat.le_refl,eq_self,and_true,true_and,and_self,if_true,if_false,false_and,and_false,or_false,false_or,or_true,true_or,not_true_eq_false,not_false_eq_true,decide_true,decide_false,decide_eq_true_eq,Option.some.injEq,reduceCtorEq,Bool.false_eq_true,ne_eq,List.getD_cons_zero,List.getD_cons_succ,List.getD_nil,List.getElem?_cons_zero,List.getElem?_cons_succ,List.getElem?_nil,Option.bind_some,Option.bind_none,Option.map_some,Option.map_none,Option.isSome_some,Option.isSome_none,Option.isNone_some,Option.isNone_none,List.map_cons,List.map_nil,List.take_succ_cons,List.take_zero,List.take_nil,List.drop_succ_cons,List.drop_zero,List.drop_nil,List.length_cons,List.length_nil,List.cons_append,List.nil_append,List.append_nil,List.filter_nil,List.filter_cons,List.any_nil,List.any_cons,List.all_nil,List.all_cons,List.toList_toArray,Nat.add_zero,Nat.zero_add,Bool.not_true,Bool.not_false,Bool.true_and,Bool.and_true,Bool.or_false,Bool.false_or,Bool.and_false,Bool.false_and,Bool.or_true,Bool.true_or,implies_true,Nat.reduceLT,Nat.reduceLeDiff,Nat.reduceEqDiff,Nat.reduceAdd,Nat.reduceSub,Nat.reduceMul,Int.reduceToNat,Int.reduceLE,Int.reduceLT,Int.reduceEq,Int.toNat_natCast,Int.natCast_nonneg,tbGV0,Tryz.results88]
 rw [EX_seq]
 simp only [↓EX_end,↓EX_skip,↓EX_label,↓EX_block,↓EX_blk,↓EX_scope,↓EX_sc,↓EX_stop,↓EX_exit,↓EX_ret,↓EX_cond,↓EX_region,↓EX_draw,↓EX_loopleaf,↓EX_rangeleaf,↓XI_end,↓XI_code,↓XI_ops,↓XI_stop,↓XI_sc,↓XI_same,↓XI_other,↓EX_ops_nil,↓EX_plain,↓EX_guard,↓EX_dplain,↓EX_dguard,↓EX_gsoft,↓EX_gsoftg,↓EX_g_alloc,↓EX_g_box,↓EX_g_store,↓EX_g_append,↓EX_g_copy,↓EX_g_call,↓callR_func,↓EX_x_call,↓EX_x_buildSlice,↓callX_func,↓callX_yield,↓EX_h_makeMap,↓EX_h_lookup,↓EX_h_mapUpdate,↓ST_makeMap,↓ST_lookup,↓ST_mapUpdate,↓ST_insert,↓ST_makeInterface,↓ST_invoke,↓ST_mapEntry,↓ST_entryStore,↓ST_range,↓ST_next,↓ST_entry,↓makeMapK_eq,↓makeMapK_eqr,↓lookK_eq,↓lookD_nil,↓lookD_nil',↓lookD_box,↓lookD_box',↓updK_eq,↓updD_box,↓ifaceK_eq,↓invK_iface,↓mentK_eq,↓mentD_box,↓estD_box,↓rangeK_eq,↓rangeD_box,↓nextK_it,↓entryK_it,↓ST_move,↓ST_assign,↓ST_pick,↓ST_load,↓ST_fieldAddr,↓ST_field,↓ST_indexAddr,↓ST_index,↓ST_binOp,↓ST_unOp,↓ST_convert,↓ST_dconvert,↓ST_gconvert,↓ST_extract,↓ST_slice,↓ST_build,↓ST_nil,↓ST_len,↓ST_tlen,↓ST_glen,↓ST_max,↓ST_min,↓ST_call,↓ST_dcall,↓ST_gcall,↓ST_makeFunc,↓ST_alloc,↓ST_box,↓ST_store,↓ST_buildSlice,↓ST_dbuildSlice,↓ST_append,↓ST_copy,↓ST_clear,↓ST_makeSlice,↓ST_cap,↓EX_h_alloc,↓EX_h_box,↓EX_h_store,↓EX_h_append,↓EX_h_makeSlice,↓EX_h_copy,↓loadK_eq,↓partK_eq,↓fieldAddrK_eq,↓zeroP_ptr,↓fieldK_eq,↓idxAddrD_slice,↓idxAddrD_array,↓idxAddrK_eq,↓idxD_string,↓idxD_array,↓idxK_eq,↓convD_int,↓convD_string,↓convK_eq,↓convE_int,↓convE_string,↓convE_bytes,↓convE_str,↓strB_lit,↓convB_eq,↓bytesD_nil,↓bytesD_box,↓bytesD_list,↓lenD_string,↓lenD_slice,↓lenK_eq,↓lenE_map,↓lenE_string,↓lenE_slice,↓lenQ_eq,↓lenM_box,↓sliceD_string,↓sliceD_slice,↓sliceD_slice3,↓sliceK_eq,↓buildK_eq,↓funcK_eq,↓loadD_agg,↓loadD_one,↓partD_agg,↓partD_one,↓allocK_eq,↓boxK_eq,↓storeK_eq,↓buildSliceK_eq,↓buildAny_zero,↓buildAny_cons,↓buildSliceD_eq,↓appendK_eq,↓appSK_eq,↓capK_eq,↓srcK_eq,↓appMK_eq,↓appAK_eq,↓copyK_eq,↓clearK_eq,↓AllV_eq,↓retQ_ret,↓retQ_normal,↓retK,↓resV_nil,↓resV_tmp,↓resV_cell,getN_same,getN_other,natPos,td1,td2,td3,keep_σ,keep_boxes,keep_rows,nilRow_same,nilRow_ne,nilRow_boxes,nilRow_rows,onVal_eq,onB_t,onB_f,nat0,dropB_σ,dropB_boxes,dropB_rows,onMapT_some,onM_some,onI_some,onFind_some,onFind_none,onEnt_some,onEnt_none,mapOf_map,getM_same,getM_other,getI_same,getI_other,setX_same,setX_other,valV_agg,valV_str,valV_int,keyV_lit,keyV_agg,keyS_agg,keyS_str,keyS_int,addB_σ,addB_boxes,addB_rows,onMode_0,onMode_1,onMode_2,onMode_3,onMode_4,modeOf_nil,modeOf_cons,ncall,Todo_eq,put_eq,put_ne,put_none,put_boxes,put_rows,addBox_σ,addBox_boxes,addBox_rows,addRow_σ,addRow_boxes,addRow_rows,setBoxes_σ,setBoxes_boxes,setBoxes_rows,setRows_σ,setRows_boxes,setRows_rows,S0_σ,S0_boxes,S0_rows,ev_tmp,ev_const,ev_global,gvL_nil,gvL_cons,globs_is,ev_func,guardV_eq,getB_same,getB_other,setB_same,setB_other,packV,soft_move,soft_assign,soft_pick,soft_load,soft_fieldAddr,soft_field,soft_indexAddr,soft_index,soft_binOp,soft_unOp,soft_convert,soft_extract,soft_slice,soft_build,soft_nil,soft_buildSlice,soft_makeFunc,soft_callv,soft_len,soft_cap,soft_max,soft_min,onSome_some,onInt_int,onStr_str,onAgg_agg,onTup_tup,onHead_cons,onBool_bool,onGuard_tt,onGuard_ft,onGuard_tf,onGuard_ff,onGuard_skip,onCond_t,onCond_f,onL_list,onL_nil,onS_list,onS_nil,onS_box,capD_slice,bnd_none,bnd_int,shiftP_ref,shiftP_ptr,atP_ref,atP_ptr,posK_succ,posK_zero,bxOf_f,buildOk,binK_int,binK_str,binK_bool,boolOf_bool,binK_nil,binK_lnil,notNil_some,notNil_none,nilQ_eq,binK_agg,EqK_eql',EqK_neq',eqTB,litB,litV,fitL,fit,veqL,veq,unK_lit,nilK_ptr,nilK_ref,nilK_func,maxK_max,maxK_min,onPtr_ptr,sliceOf_slice,appD_nil,appD_own,srcD_list,srcD_nil,srcD_box,srcD_str,appMD_box,appAD_nil,appAD_box,copyD_nil,copyD_box,clrD_nil,clrD_box,makeSliceK_int,appendAny_own,appendAny_ownN,appendAny_ownS,appendAny_nil,appendAny_zeros,appendAny_list,appendAny_slice,appendAny_str,If2_t,If2_f,takeRF_single,callE_func,callE_yield,callK_func,And2_true,sbin,sun,nilB,cellsV,oneB,okC,vals,fillV,partsE,nt_is,Int.le_refl,Nat.sub_zero,Nat.zero_le,Nat.le_refl,eq_self,and_true,true_and,and_self,if_true,if_false,false_and,and_false,or_false,false_or,or_true,true_or,not_true_eq_false,not_false_eq_true,decide_true,decide_false,decide_eq_true_eq,Option.some.injEq,reduceCtorEq,Bool.false_eq_true,ne_eq,List.getD_cons_zero,List.getD_cons_succ,List.getD_nil,List.getElem?_cons_zero,List.getElem?_cons_succ,List.getElem?_nil,Option.bind_some,Option.bind_none,Option.map_some,Option.map_none,Option.isSome_some,Option.isSome_none,Option.isNone_some,Option.isNone_none,List.map_cons,List.map_nil,List.take_succ_cons,List.take_zero,List.take_nil,List.drop_succ_cons,List.drop_zero,List.drop_nil,List.length_cons,List.length_nil,List.cons_append,List.nil_append,List.append_nil,List.filter_nil,List.filter_cons,List.any_nil,List.any_cons,List.all_nil,List.all_cons,List.toList_toArray,Nat.add_zero,Nat.zero_add,Bool.not_true,Bool.not_false,Bool.true_and,Bool.and_true,Bool.or_false,Bool.false_or,Bool.and_false,Bool.false_and,Bool.or_true,Bool.true_or,implies_true,Nat.reduceLT,Nat.reduceLeDiff,Nat.reduceEqDiff,Nat.reduceAdd,Nat.reduceSub,Nat.reduceMul,Int.reduceToNat,Int.reduceLE,Int.reduceLT,Int.reduceEq,Int.toNat_natCast,Int.natCast_nonneg,tbGV0,Tryz.results88]
 rw [EX_seq]
 refine EX_cut (fun S=>∃ L r,(L.flatten++r).Perm l∧Blk cf 20 L∧r.length < 20∧S.boxes=[(b,.c (((L.flatten++r).map c).flatten++rest))]∧S.rows=[]∧S.σ 0=.lit (.slice (some ⟨b,0,none⟩) l.length cap)∧S.σ 1=vint l.length∧S.σ 2=fnG g∧S.σ 6=vint 20∧S.σ 7=vint L.flatten.length) ?_ ?_
 ·simp only [↓rA,rB,buildOk,nt_is,Int.reduceEq,Int.reduceLE,Int.reduceLT,Int.reduceToNat,Nat.reduceAdd,Nat.reduceEqDiff,Nat.reduceLT,Nat.reduceLeDiff,Nat.reduceMul,Nat.reduceSub,reduceCtorEq,tbGV0,Tryz.results88]
  refine EX_while Ty.mixed (by kernel_rfl) (fun x=>x.2.length) (fun(x:List (List α) × List α) S=>(x.1.flatten++x.2).Perm l∧Blk cf 20 x.1∧S.boxes=[(b,.c (((x.1.flatten++x.2).map c).flatten++rest))]∧S.rows=[]∧S.σ 0=.lit (.slice (some ⟨b,0,none⟩) l.length cap)∧S.σ 1=vint l.length∧S.σ 2=fnG g∧S.σ 6=vint 20∧S.σ 7=vint x.1.flatten.length∧S.σ 8=vint ((x.1.flatten.length+20:Nat):Int)) ([],l) ⟨0,?_⟩ (fun⟨L,r⟩ S ⟨hp,hB,gb,gr,g0,g1,g2,g6,g7,g8⟩=>?_)
  ·simp only [↓rA,rB,buildOk,nt_is,Int.reduceEq,Int.reduceLE,Int.reduceLT,Int.reduceToNat,Nat.reduceAdd,Nat.reduceEqDiff,Nat.reduceLT,Nat.reduceLeDiff,Nat.reduceMul,Nat.reduceSub,reduceCtorEq,tbGV0,Tryz.results88]
   refine⟨List.Perm.refl _,fun s hs=>absurd hs List.not_mem_nil,?_⟩
   simp
  ·rename_i hx0;clear hx0
   simp only at hp hB gb g7 g8 ⊢
   have hlen:(L.flatten++r).length=l.length:=hp.length_eq
   have hlen':L.flatten.length+r.length=l.length:=by rw [← hlen,List.length_append]
   by_cases hle:L.flatten.length+20≤l.length
   ·have w1:IntKind.i64.wrap (((L.flatten.length+20:Nat):Int)+20)=((L.flatten.length+20+20:Nat):Int):=by rw [wrap_id (by omega) (by omega)];omega
    simp only [↓rA,rB,buildOk,nt_is,Int.reduceEq,Int.reduceLE,Int.reduceLT,Int.reduceToNat,Nat.reduceAdd,Nat.reduceEqDiff,Nat.reduceLT,Nat.reduceLeDiff,Nat.reduceMul,Nat.reduceSub,reduceCtorEq,tbGV0,Tryz.results88,gb,gr,g0,g1,g2,g6,g7,g8,Int.ofNat_le,hle,w1]
    rw [← hlen]
    have er:r=r.take 20++r.drop 20:=(List.take_append_drop _ _).symm
    have lr:(r.take 20).length=20:=by rw [List.length_take];omega
    refine OkF_with [_] [] (List.Perm.refl _) (?_:Ok _ _ _ _ (fun v bs rs=>v=.tup []∧rs=[]∧∃ Y,Y.Perm (r.take 20)∧Srt cf Y∧bs=[(b,.c (((L.flatten++(Y++r.drop 20)).map c).flatten++rest))])) ?_
    ·have:=insS_ok hc ho hP g hg hcmp b cap (L.flatten++r) rest L.flatten (r.take 20) (r.drop 20) (by rw [← er]) (by omega) (by omega)
     rw [lr] at this
     exact this
    rintro v bs rs ⟨rfl,rfl,Y,hY,sY,rfl⟩
    have hYl:Y.length=20:=by rw [hY.length_eq,lr]
    simp only [↓rA,rB,buildOk,nt_is,Int.reduceEq,Int.reduceLE,Int.reduceLT,Int.reduceToNat,Nat.reduceAdd,Nat.reduceEqDiff,Nat.reduceLT,Nat.reduceLeDiff,Nat.reduceMul,Nat.reduceSub,reduceCtorEq,tbGV0,Tryz.results88,gb,gr,g0,g1,g2,g6,g7,g8,w1]
    rw [hlen]
    have hfl:(L++[Y]).flatten=L.flatten++Y:=by simp
    refine⟨(L++[Y],r.drop 20),by simp only [List.length_drop];omega,0,?_,hB.snoc hYl sY,?_,?_⟩
    ·simp only [hfl]
     refine List.Perm.trans ?_ hp
     rw [List.append_assoc]
     refine List.Perm.append_left _ ?_
     conv=>rhs;rw [er]
     exact List.Perm.append_right _ hY
    ·simp only [hfl,List.append_assoc,List.drop_zero]
    ·simp only [hfl,List.length_append,hYl]
     exact⟨trivial,trivial,trivial,trivial⟩
   ·simp only [↓rA,rB,buildOk,nt_is,Int.reduceEq,Int.reduceLE,Int.reduceLT,Int.reduceToNat,Nat.reduceAdd,Nat.reduceEqDiff,Nat.reduceLT,Nat.reduceLeDiff,Nat.reduceMul,Nat.reduceSub,reduceCtorEq,tbGV0,Tryz.results88,gb,gr,g0,g1,g2,g6,g7,g8,Int.ofNat_le,hle]
    exact⟨L,r,hp,hB,by omega,rfl,rfl⟩
 rintro S ⟨L,r,hp,hB,hr,gb,gr,g0,g1,g2,g6,g7⟩
 have hlen:(L.flatten++r).length=l.length:=hp.length_eq
 have hlen':L.flatten.length+r.length=l.length:=by rw [← hlen,List.length_append]
 rw [EX_seq]
 refine EX_cut (fun S=>∃ L t,(L.flatten++t).Perm l∧Blk cf 20 L∧t.length < 20∧Srt cf t∧S.boxes=[(b,.c (((L.flatten++t).map c).flatten++rest))]∧S.rows=[]∧S.σ 0=.lit (.slice (some ⟨b,0,none⟩) l.length cap)∧S.σ 1=vint l.length∧S.σ 2=fnG g∧S.σ 6=vint 20) ?_ ?_
 ·simp only [↓rA,rB,buildOk,nt_is,Int.reduceEq,Int.reduceLE,Int.reduceLT,Int.reduceToNat,Nat.reduceAdd,Nat.reduceEqDiff,Nat.reduceLT,Nat.reduceLeDiff,Nat.reduceMul,Nat.reduceSub,reduceCtorEq,tbGV0,Tryz.results88,gb,gr,g0,g1,g2,g6,g7]
  rw [← hlen]
  refine OkF_with [_] [] (List.Perm.refl _) (?_:Ok _ _ _ _ (fun v bs rs=>v=.tup []∧rs=[]∧∃ Y,Y.Perm r∧Srt cf Y∧bs=[(b,.c (((L.flatten++Y).map c).flatten++rest))])) ?_
  ·have:=insS_ok hc ho hP g hg hcmp b cap (L.flatten++r) rest L.flatten r [] (by simp) (by omega) (by omega)
   simpa only [List.append_nil,List.length_append] using this
  rintro v bs rs ⟨rfl,rfl,Y,hY,sY,rfl⟩
  simp only [↓rA,rB,buildOk,nt_is,Int.reduceEq,Int.reduceLE,Int.reduceLT,Int.reduceToNat,Nat.reduceAdd,Nat.reduceEqDiff,Nat.reduceLT,Nat.reduceLeDiff,Nat.reduceMul,Nat.reduceSub,reduceCtorEq,tbGV0,Tryz.results88,gb,gr,g0,g1,g2,g6,g7]
  rw [hlen]
  exact⟨L,Y,(List.Perm.append_left _ hY).trans hp,hB,by rw [hY.length_eq];exact hr,sY,rfl,rfl,rfl⟩
 clear hlen hlen' hp hB hr gb gr g0 g1 g2 g6 g7
 rintro S ⟨L,t,hp,hB,ht,hst,gb,gr,g0,g1,g2,g6⟩
 simp only [↓rA,rB,buildOk,nt_is,Int.reduceEq,Int.reduceLE,Int.reduceLT,Int.reduceToNat,Nat.reduceAdd,Nat.reduceEqDiff,Nat.reduceLT,Nat.reduceLeDiff,Nat.reduceMul,Nat.reduceSub,reduceCtorEq,tbGV0,Tryz.results88]
 refine EX_while Ty.mixed (by kernel_rfl) (fun x=>l.length - x.1) (fun(x:Nat × List (List α) × List α) S=>(x.2.1.flatten++x.2.2).Perm l∧Blk cf x.1 x.2.1∧x.2.2.length < x.1∧Srt cf x.2.2∧(20≤x.1∧x.1≤8000020)∧S.boxes=[(b,.c (((x.2.1.flatten++x.2.2).map c).flatten++rest))]∧S.rows=[]∧S.σ 0=.lit (.slice (some ⟨b,0,none⟩) l.length cap)∧S.σ 1=vint l.length∧S.σ 2=fnG g∧S.σ 6=vint x.1) (20,L,t) ⟨0,?_⟩ ?_
 ·simp only [↓rA,rB,buildOk,nt_is,Int.reduceEq,Int.reduceLE,Int.reduceLT,Int.reduceToNat,Nat.reduceAdd,Nat.reduceEqDiff,Nat.reduceLT,Nat.reduceLeDiff,Nat.reduceMul,Nat.reduceSub,reduceCtorEq,tbGV0,Tryz.results88,gb,gr,g0,g1,g2,g6]
  exact⟨hp,hB,ht,hst,rfl⟩
 clear hp hB ht hst gb gr g0 g1 g2 g6
 rintro⟨n,L,t⟩ S ⟨hp,hB,ht,hst,⟨hn,hn'⟩,gb,gr,g0,g1,g2,g6⟩
 simp only at hp hB ht hst hn hn' gb g6 ⊢
 have hlen:(L.flatten++t).length=l.length:=hp.length_eq
 have hlen':L.length * n+t.length=l.length:=by rw [← hlen,List.length_append,hB.len]
 by_cases hlt:n < l.length
 ·have w1:IntKind.i64.wrap (2 * (n:Int))=((2 * n:Nat):Int):=by rw [wrap_id (by omega) (by omega)];omega
  have w1':IntKind.i64.wrap ((n:Int) * 2)=((2 * n:Nat):Int):=by rw [wrap_id (by omega) (by omega)];omega
  rw [EX_seq,EX_seq]
  simp only [↓EX_end,↓EX_skip,↓EX_label,↓EX_block,↓EX_blk,↓EX_scope,↓EX_sc,↓EX_stop,↓EX_exit,↓EX_ret,↓EX_cond,↓EX_region,↓EX_draw,↓EX_loopleaf,↓EX_rangeleaf,↓XI_end,↓XI_code,↓XI_ops,↓XI_stop,↓XI_sc,↓XI_same,↓XI_other,↓EX_ops_nil,↓EX_plain,↓EX_guard,↓EX_dplain,↓EX_dguard,↓EX_gsoft,↓EX_gsoftg,↓EX_g_alloc,↓EX_g_box,↓EX_g_store,↓EX_g_append,↓EX_g_copy,↓EX_g_call,↓callR_func,↓EX_x_call,↓EX_x_buildSlice,↓callX_func,↓callX_yield,↓EX_h_makeMap,↓EX_h_lookup,↓EX_h_mapUpdate,↓ST_makeMap,↓ST_lookup,↓ST_mapUpdate,↓ST_insert,↓ST_makeInterface,↓ST_invoke,↓ST_mapEntry,↓ST_entryStore,↓ST_range,↓ST_next,↓ST_entry,↓makeMapK_eq,↓makeMapK_eqr,↓lookK_eq,↓lookD_nil,↓lookD_nil',↓lookD_box,↓lookD_box',↓updK_eq,↓updD_box,↓ifaceK_eq,↓invK_iface,↓mentK_eq,↓mentD_box,↓estD_box,↓rangeK_eq,↓rangeD_box,↓nextK_it,↓entryK_it,↓ST_move,↓ST_assign,↓ST_pick,↓ST_load,↓ST_fieldAddr,↓ST_field,↓ST_indexAddr,↓ST_index,↓ST_binOp,↓ST_unOp,↓ST_convert,↓ST_dconvert,↓ST_gconvert,↓ST_extract,↓ST_slice,↓ST_build,↓ST_nil,↓ST_len,↓ST_tlen,↓ST_glen,↓ST_max,↓ST_min,↓ST_call,↓ST_dcall,↓ST_gcall,↓ST_makeFunc,↓ST_alloc,↓ST_box,↓ST_store,↓ST_buildSlice,↓ST_dbuildSlice,↓ST_append,↓ST_copy,↓ST_clear,↓ST_makeSlice,↓ST_cap,↓EX_h_alloc,↓EX_h_box,↓EX_h_store,↓EX_h_append,↓EX_h_makeSlice,↓EX_h_copy,↓loadK_eq,↓partK_eq,↓fieldAddrK_eq,↓zeroP_ptr,↓fieldK_eq,↓idxAddrD_slice,↓idxAddrD_array,↓idxAddrK_eq,↓idxD_string,↓idxD_array,↓idxK_eq,↓convD_int,↓convD_string,↓convK_eq,↓convE_int,↓convE_string,↓convE_bytes,↓convE_str,↓strB_lit,↓convB_eq,↓bytesD_nil,↓bytesD_box,↓bytesD_list,↓lenD_string,↓lenD_slice,↓lenK_eq,↓lenE_map,↓lenE_string,↓lenE_slice,↓lenQ_eq,↓lenM_box,↓sliceD_string,↓sliceD_slice,↓sliceD_slice3,↓sliceK_eq,↓buildK_eq,↓funcK_eq,↓loadD_agg,↓loadD_one,↓partD_agg,↓partD_one,↓allocK_eq,↓boxK_eq,↓storeK_eq,↓buildSliceK_eq,↓buildAny_zero,↓buildAny_cons,↓buildSliceD_eq,↓appendK_eq,↓appSK_eq,↓capK_eq,↓srcK_eq,↓appMK_eq,↓appAK_eq,↓copyK_eq,↓clearK_eq,↓AllV_eq,↓retQ_ret,↓retQ_normal,↓retK,↓resV_nil,↓resV_tmp,↓resV_cell,getN_same,getN_other,natPos,td1,td2,td3,keep_σ,keep_boxes,keep_rows,nilRow_same,nilRow_ne,nilRow_boxes,nilRow_rows,onVal_eq,onB_t,onB_f,nat0,dropB_σ,dropB_boxes,dropB_rows,onMapT_some,onM_some,onI_some,onFind_some,onFind_none,onEnt_some,onEnt_none,mapOf_map,getM_same,getM_other,getI_same,getI_other,setX_same,setX_other,valV_agg,valV_str,valV_int,keyV_lit,keyV_agg,keyS_agg,keyS_str,keyS_int,addB_σ,addB_boxes,addB_rows,onMode_0,onMode_1,onMode_2,onMode_3,onMode_4,modeOf_nil,modeOf_cons,ncall,Todo_eq,put_eq,put_ne,put_none,put_boxes,put_rows,addBox_σ,addBox_boxes,addBox_rows,addRow_σ,addRow_boxes,addRow_rows,setBoxes_σ,setBoxes_boxes,setBoxes_rows,setRows_σ,setRows_boxes,setRows_rows,S0_σ,S0_boxes,S0_rows,ev_tmp,ev_const,ev_global,gvL_nil,gvL_cons,globs_is,ev_func,guardV_eq,getB_same,getB_other,setB_same,setB_other,packV,soft_move,soft_assign,soft_pick,soft_load,soft_fieldAddr,soft_field,soft_indexAddr,soft_index,soft_binOp,soft_unOp,soft_convert,soft_extract,soft_slice,soft_build,soft_nil,soft_buildSlice,soft_makeFunc,soft_callv,soft_len,soft_cap,soft_max,soft_min,onSome_some,onInt_int,onStr_str,onAgg_agg,onTup_tup,onHead_cons,onBool_bool,onGuard_tt,onGuard_ft,onGuard_tf,onGuard_ff,onGuard_skip,onCond_t,onCond_f,onL_list,onL_nil,onS_list,onS_nil,onS_box,capD_slice,bnd_none,bnd_int,shiftP_ref,shiftP_ptr,atP_ref,atP_ptr,posK_succ,posK_zero,bxOf_f,buildOk,binK_int,binK_str,binK_bool,boolOf_bool,binK_nil,binK_lnil,notNil_some,notNil_none,nilQ_eq,binK_agg,EqK_eql',EqK_neq',eqTB,litB,litV,fitL,fit,veqL,veq,unK_lit,nilK_ptr,nilK_ref,nilK_func,maxK_max,maxK_min,onPtr_ptr,sliceOf_slice,appD_nil,appD_own,srcD_list,srcD_nil,srcD_box,srcD_str,appMD_box,appAD_nil,appAD_box,copyD_nil,copyD_box,clrD_nil,clrD_box,makeSliceK_int,appendAny_own,appendAny_ownN,appendAny_ownS,appendAny_nil,appendAny_zeros,appendAny_list,appendAny_slice,appendAny_str,If2_t,If2_f,takeRF_single,callE_func,callE_yield,callK_func,And2_true,sbin,sun,nilB,cellsV,oneB,okC,vals,fillV,partsE,nt_is,Int.le_refl,Nat.sub_zero,Nat.zero_le,Nat.le_refl,eq_self,and_true,true_and,and_self,if_true,if_false,false_and,and_false,or_false,false_or,or_true,true_or,not_true_eq_false,not_false_eq_true,decide_true,decide_false,decide_eq_true_eq,Option.some.injEq,reduceCtorEq,Bool.false_eq_true,ne_eq,List.getD_cons_zero,List.getD_cons_succ,List.getD_nil,List.getElem?_cons_zero,List.getElem?_cons_succ,List.getElem?_nil,Option.bind_some,Option.bind_none,Option.map_some,Option.map_none,Option.isSome_some,Option.isSome_none,Option.isNone_some,Option.isNone_none,List.map_cons,List.map_nil,List.take_succ_cons,List.take_zero,List.take_nil,List.drop_succ_cons,List.drop_zero,List.drop_nil,List.length_cons,List.length_nil,List.cons_append,List.nil_append,List.append_nil,List.filter_nil,List.filter_cons,List.any_nil,List.any_cons,List.all_nil,List.all_cons,List.toList_toArray,Nat.add_zero,Nat.zero_add,Bool.not_true,Bool.not_false,Bool.true_and,Bool.and_true,Bool.or_false,Bool.false_or,Bool.and_false,Bool.false_and,Bool.or_true,Bool.true_or,implies_true,Nat.reduceLT,Nat.reduceLeDiff,Nat.reduceEqDiff,Nat.reduceAdd,Nat.reduceSub,Nat.reduceMul,Int.reduceToNat,Int.reduceLE,Int.reduceLT,Int.reduceEq,Int.toNat_natCast,Int.natCast_nonneg,tbGV0,Tryz.results88,gb,gr,g0,g1,g2,g6,Int.ofNat_lt,hlt]
  rw [EX_seq]
  simp only [↓EX_end,↓EX_skip,↓EX_label,↓EX_block,↓EX_blk,↓EX_scope,↓EX_sc,↓EX_stop,↓EX_exit,↓EX_ret,↓EX_cond,↓EX_region,↓EX_draw,↓EX_loopleaf,↓EX_rangeleaf,↓XI_end,↓XI_code,↓XI_ops,↓XI_stop,↓XI_sc,↓XI_same,↓XI_other,↓EX_ops_nil,↓EX_plain,↓EX_guard,↓EX_dplain,↓EX_dguard,↓EX_gsoft,↓EX_gsoftg,↓EX_g_alloc,↓EX_g_box,↓EX_g_store,↓EX_g_append,↓EX_g_copy,↓EX_g_call,↓callR_func,↓EX_x_call,↓EX_x_buildSlice,↓callX_func,↓callX_yield,↓EX_h_makeMap,↓EX_h_lookup,↓EX_h_mapUpdate,↓ST_makeMap,↓ST_lookup,↓ST_mapUpdate,↓ST_insert,↓ST_makeInterface,↓ST_invoke,↓ST_mapEntry,↓ST_entryStore,↓ST_range,↓ST_next,↓ST_entry,↓makeMapK_eq,↓makeMapK_eqr,↓lookK_eq,↓lookD_nil,↓lookD_nil',↓lookD_box,↓lookD_box',↓updK_eq,↓updD_box,↓ifaceK_eq,↓invK_iface,↓mentK_eq,↓mentD_box,↓estD_box,↓rangeK_eq,↓rangeD_box,↓nextK_it,↓entryK_it,↓ST_move,↓ST_assign,↓ST_pick,↓ST_load,↓ST_fieldAddr,↓ST_field,↓ST_indexAddr,↓ST_index,↓ST_binOp,↓ST_unOp,↓ST_convert,↓ST_dconvert,↓ST_gconvert,↓ST_extract,↓ST_slice,↓ST_build,↓ST_nil,↓ST_len,↓ST_tlen,↓ST_glen,↓ST_max,↓ST_min,↓ST_call,↓ST_dcall,↓ST_gcall,↓ST_makeFunc,↓ST_alloc,↓ST_box,↓ST_store,↓ST_buildSlice,↓ST_dbuildSlice,↓ST_append,↓ST_copy,↓ST_clear,↓ST_makeSlice,↓ST_cap,↓EX_h_alloc,↓EX_h_box,↓EX_h_store,↓EX_h_append,↓EX_h_makeSlice,↓EX_h_copy,↓loadK_eq,↓partK_eq,↓fieldAddrK_eq,↓zeroP_ptr,↓fieldK_eq,↓idxAddrD_slice,↓idxAddrD_array,↓idxAddrK_eq,↓idxD_string,↓idxD_array,↓idxK_eq,↓convD_int,↓convD_string,↓convK_eq,↓convE_int,↓convE_string,↓convE_bytes,↓convE_str,↓strB_lit,↓convB_eq,↓bytesD_nil,↓bytesD_box,↓bytesD_list,↓lenD_string,↓lenD_slice,↓lenK_eq,↓lenE_map,↓lenE_string,↓lenE_slice,↓lenQ_eq,↓lenM_box,↓sliceD_string,↓sliceD_slice,↓sliceD_slice3,↓sliceK_eq,↓buildK_eq,↓funcK_eq,↓loadD_agg,↓loadD_one,↓partD_agg,↓partD_one,↓allocK_eq,↓boxK_eq,↓storeK_eq,↓buildSliceK_eq,↓buildAny_zero,↓buildAny_cons,↓buildSliceD_eq,↓appendK_eq,↓appSK_eq,↓capK_eq,↓srcK_eq,↓appMK_eq,↓appAK_eq,↓copyK_eq,↓clearK_eq,↓AllV_eq,↓retQ_ret,↓retQ_normal,↓retK,↓resV_nil,↓resV_tmp,↓resV_cell,getN_same,getN_other,natPos,td1,td2,td3,keep_σ,keep_boxes,keep_rows,nilRow_same,nilRow_ne,nilRow_boxes,nilRow_rows,onVal_eq,onB_t,onB_f,nat0,dropB_σ,dropB_boxes,dropB_rows,onMapT_some,onM_some,onI_some,onFind_some,onFind_none,onEnt_some,onEnt_none,mapOf_map,getM_same,getM_other,getI_same,getI_other,setX_same,setX_other,valV_agg,valV_str,valV_int,keyV_lit,keyV_agg,keyS_agg,keyS_str,keyS_int,addB_σ,addB_boxes,addB_rows,onMode_0,onMode_1,onMode_2,onMode_3,onMode_4,modeOf_nil,modeOf_cons,ncall,Todo_eq,put_eq,put_ne,put_none,put_boxes,put_rows,addBox_σ,addBox_boxes,addBox_rows,addRow_σ,addRow_boxes,addRow_rows,setBoxes_σ,setBoxes_boxes,setBoxes_rows,setRows_σ,setRows_boxes,setRows_rows,S0_σ,S0_boxes,S0_rows,ev_tmp,ev_const,ev_global,gvL_nil,gvL_cons,globs_is,ev_func,guardV_eq,getB_same,getB_other,setB_same,setB_other,packV,soft_move,soft_assign,soft_pick,soft_load,soft_fieldAddr,soft_field,soft_indexAddr,soft_index,soft_binOp,soft_unOp,soft_convert,soft_extract,soft_slice,soft_build,soft_nil,soft_buildSlice,soft_makeFunc,soft_callv,soft_len,soft_cap,soft_max,soft_min,onSome_some,onInt_int,onStr_str,onAgg_agg,onTup_tup,onHead_cons,onBool_bool,onGuard_tt,onGuard_ft,onGuard_tf,onGuard_ff,onGuard_skip,onCond_t,onCond_f,onL_list,onL_nil,onS_list,onS_nil,onS_box,capD_slice,bnd_none,bnd_int,shiftP_ref,shiftP_ptr,atP_ref,atP_ptr,posK_succ,posK_zero,bxOf_f,buildOk,binK_int,binK_str,binK_bool,boolOf_bool,binK_nil,binK_lnil,notNil_some,notNil_none,nilQ_eq,binK_agg,EqK_eql',EqK_neq',eqTB,litB,litV,fitL,fit,veqL,veq,unK_lit,nilK_ptr,nilK_ref,nilK_func,maxK_max,maxK_min,onPtr_ptr,sliceOf_slice,appD_nil,appD_own,srcD_list,srcD_nil,srcD_box,srcD_str,appMD_box,appAD_nil,appAD_box,copyD_nil,copyD_box,clrD_nil,clrD_box,makeSliceK_int,appendAny_own,appendAny_ownN,appendAny_ownS,appendAny_nil,appendAny_zeros,appendAny_list,appendAny_slice,appendAny_str,If2_t,If2_f,takeRF_single,callE_func,callE_yield,callK_func,And2_true,sbin,sun,nilB,cellsV,oneB,okC,vals,fillV,partsE,nt_is,Int.le_refl,Nat.sub_zero,Nat.zero_le,Nat.le_refl,eq_self,and_true,true_and,and_self,if_true,if_false,false_and,and_false,or_false,false_or,or_true,true_or,not_true_eq_false,not_false_eq_true,decide_true,decide_false,decide_eq_true_eq,Option.some.injEq,reduceCtorEq,Bool.false_eq_true,ne_eq,List.getD_cons_zero,List.getD_cons_succ,List.getD_nil,List.getElem?_cons_zero,List.getElem?_cons_succ,List.getElem?_nil,Option.bind_some,Option.bind_none,Option.map_some,Option.map_none,Option.isSome_some,Option.isSome_none,Option.isNone_some,Option.isNone_none,List.map_cons,List.map_nil,List.take_succ_cons,List.take_zero,List.take_nil,List.drop_succ_cons,List.drop_zero,List.drop_nil,List.length_cons,List.length_nil,List.cons_append,List.nil_append,List.append_nil,List.filter_nil,List.filter_cons,List.any_nil,List.any_cons,List.all_nil,List.all_cons,List.toList_toArray,Nat.add_zero,Nat.zero_add,Bool.not_true,Bool.not_false,Bool.true_and,Bool.and_true,Bool.or_false,Bool.false_or,Bool.and_false,Bool.false_and,Bool.or_true,Bool.true_or,implies_true,Nat.reduceLT,Nat.reduceLeDiff,Nat.reduceEqDiff,Nat.reduceAdd,Nat.reduceSub,Nat.reduceMul,Int.reduceToNat,Int.reduceLE,Int.reduceLT,Int.reduceEq,Int.toNat_natCast,Int.natCast_nonneg,tbGV0,Tryz.results88,gb,gr,g0,g1,g2,g6,w1]
  rw [EX_seq]
  refine EX_cut (fun S=>∃ L2 L1,(L2.flatten++(L1.flatten++t)).Perm l∧Blk cf (2 * n) L2∧Blk cf n L1∧L1.length≤1∧S.boxes=[(b,.c (((L2.flatten++(L1.flatten++t)).map c).flatten++rest))]∧S.rows=[]∧S.σ 0=.lit (.slice (some ⟨b,0,none⟩) l.length cap)∧S.σ 1=vint l.length∧S.σ 2=fnG g∧S.σ 6=vint n∧S.σ 7=vint L2.flatten.length) ?_ ?_
  ·simp only [↓rA,rB,buildOk,nt_is,Int.reduceEq,Int.reduceLE,Int.reduceLT,Int.reduceToNat,Nat.reduceAdd,Nat.reduceEqDiff,Nat.reduceLT,Nat.reduceLeDiff,Nat.reduceMul,Nat.reduceSub,reduceCtorEq,tbGV0,Tryz.results88]
   refine EX_while Ty.mixed (by kernel_rfl) (fun x=>x.2.length) (fun(x:List (List α) × List (List α)) S=>(x.1.flatten++(x.2.flatten++t)).Perm l∧Blk cf (2 * n) x.1∧Blk cf n x.2∧S.boxes=[(b,.c (((x.1.flatten++(x.2.flatten++t)).map c).flatten++rest))]∧S.rows=[]∧S.σ 0=.lit (.slice (some ⟨b,0,none⟩) l.length cap)∧S.σ 1=vint l.length∧S.σ 2=fnG g∧S.σ 6=vint n∧S.σ 7=vint x.1.flatten.length∧S.σ 8=vint ((x.1.flatten.length+2 * n:Nat):Int)) ([],L) ⟨0,?_⟩ ?_
   ·simp only [↓rA,rB,buildOk,nt_is,Int.reduceEq,Int.reduceLE,Int.reduceLT,Int.reduceToNat,Nat.reduceAdd,Nat.reduceEqDiff,Nat.reduceLT,Nat.reduceLeDiff,Nat.reduceMul,Nat.reduceSub,reduceCtorEq,tbGV0,Tryz.results88,gb,gr,g0,g1,g2,g6]
    refine⟨hp,fun s hs=>absurd hs List.not_mem_nil,hB,?_⟩
    simp
   clear hp hlen hlen' hB gb gr g0 g1 g2 g6
   rintro⟨L2,L1⟩ S ⟨hp,hB2,hB1,gb,gr,g0,g1,g2,g6,g7,g8⟩
   simp only at hp hB2 hB1 gb g7 g8 ⊢
   have hlen:(L2.flatten++(L1.flatten++t)).length=l.length:=hp.length_eq
   have hlen':L2.flatten.length+(L1.length * n+t.length)=l.length:=by rw [← hlen,List.length_append,List.length_append,hB1.len]
   by_cases hle:L2.flatten.length+2 * n≤l.length
   ·obtain⟨s1,s2,L1,rfl⟩:∃ s1 s2 L',L1=s1::s2::L':=by
     rcases L1 with _ | ⟨s1,_ | ⟨s2,L'⟩⟩
     ·simp only [List.length_nil,List.length_cons,Nat.zero_mul,Nat.zero_add,Nat.one_mul,Nat.add_mul] at hlen';omega
     ·simp only [List.length_nil,List.length_cons,Nat.zero_mul,Nat.zero_add,Nat.one_mul,Nat.add_mul] at hlen';omega
     ·exact⟨s1,s2,L',rfl⟩
    obtain⟨k1,o1⟩:=hB1 s1 List.mem_cons_self
    obtain⟨k2,o2⟩:=hB1 s2 (List.mem_cons_of_mem _ List.mem_cons_self)
    have hB1':Blk cf n L1:=fun s hs=>hB1 s (List.mem_cons_of_mem _ (List.mem_cons_of_mem _ hs))
    have w2:IntKind.i64.wrap (((L2.flatten.length:Nat):Int)+(n:Int))=((L2.flatten.length+n:Nat):Int):=by rw [wrap_id (by omega) (by omega)];omega
    have w3:IntKind.i64.wrap (((L2.flatten.length+2 * n:Nat):Int)+((2 * n:Nat):Int))=((L2.flatten.length+2 * n+2 * n:Nat):Int):=by rw [wrap_id (by omega) (by omega)];omega
    simp only [↓rA,rB,buildOk,nt_is,Int.reduceEq,Int.reduceLE,Int.reduceLT,Int.reduceToNat,Nat.reduceAdd,Nat.reduceEqDiff,Nat.reduceLT,Nat.reduceLeDiff,Nat.reduceMul,Nat.reduceSub,reduceCtorEq,tbGV0,Tryz.results88,gb,gr,g0,g1,g2,g6,g7,g8,Int.ofNat_le,hle,w1,w2,w3]
    rw [← hlen]
    refine OkF_with [_] [] (List.Perm.refl _) (?_:Ok _ _ _ _ (fun v bs rs=>v=.tup []∧rs=[]∧∃ Y,Y.Perm (s1++s2)∧Srt cf Y∧bs=[(b,.c (((L2.flatten++(Y++(L1.flatten++t))).map c).flatten++rest))])) ?_
    ·have:=symM_ok hc ho hP g hg hcmp b cap rest _ (L2.flatten++((s1::s2::L1).flatten++t)) L2.flatten s1 s2 (L1.flatten++t) (Nat.le_refl _) (by simp) (List.length_pos_iff.1 (by omega)) (List.length_pos_iff.1 (by omega)) o1 o2 (by omega) (by omega)
     rw [k1,k2] at this
     have e:L2.flatten.length+n+n=L2.flatten.length+2 * n:=by omega
     rw [e] at this
     exact this
    rintro v bs rs ⟨rfl,rfl,Y,hY,sY,rfl⟩
    have hYl:Y.length=2 * n:=by rw [hY.length_eq,List.length_append,k1,k2];omega
    simp only [↓rA,rB,buildOk,nt_is,Int.reduceEq,Int.reduceLE,Int.reduceLT,Int.reduceToNat,Nat.reduceAdd,Nat.reduceEqDiff,Nat.reduceLT,Nat.reduceLeDiff,Nat.reduceMul,Nat.reduceSub,reduceCtorEq,tbGV0,Tryz.results88,gb,gr,g0,g1,g2,g6,g7,g8,w1,w3]
    rw [hlen]
    have hfl:(L2++[Y]).flatten=L2.flatten++Y:=by simp
    refine⟨(L2++[Y],L1),by simp only [List.length_cons];omega,0,?_,hB2.snoc hYl sY,hB1',?_,?_⟩
    ·simp only [hfl]
     refine List.Perm.trans ?_ hp
     rw [List.append_assoc]
     refine List.Perm.append_left _ ?_
     simp only [List.flatten_cons]
     rw [← List.append_assoc Y,← List.append_assoc s1]
     simp only [List.append_assoc]
     rw [← List.append_assoc s1]
     exact List.Perm.append_right _ hY
    ·simp only [hfl,List.append_assoc,List.drop_zero]
    ·simp only [hfl,List.length_append,hYl]
     exact⟨trivial,trivial,trivial,trivial⟩
   ·simp only [↓rA,rB,buildOk,nt_is,Int.reduceEq,Int.reduceLE,Int.reduceLT,Int.reduceToNat,Nat.reduceAdd,Nat.reduceEqDiff,Nat.reduceLT,Nat.reduceLeDiff,Nat.reduceMul,Nat.reduceSub,reduceCtorEq,tbGV0,Tryz.results88,gb,gr,g0,g1,g2,g6,g7,g8,Int.ofNat_le,hle,w1]
    refine⟨L2,L1,hp,hB2,hB1,?_,rfl,rfl⟩
    rcases L1 with _ | ⟨s1,_ | ⟨s2,L'⟩⟩
    ·simp
    ·simp
    ·simp only [List.length_nil,List.length_cons,Nat.zero_mul,Nat.zero_add,Nat.one_mul,Nat.add_mul] at hlen'
     omega
  clear hp hlen hlen' hB gb gr g0 g1 g2 g6
  rintro S ⟨L2,L1,hp,hB2,hB1,hone,gb,gr,g0,g1,g2,g6,g7⟩
  have hlen:(L2.flatten++(L1.flatten++t)).length=l.length:=hp.length_eq
  have hlen':L2.flatten.length+(L1.length * n+t.length)=l.length:=by rw [← hlen,List.length_append,List.length_append,hB1.len]
  have w2:IntKind.i64.wrap (((L2.flatten.length:Nat):Int)+(n:Int))=((L2.flatten.length+n:Nat):Int):=by rw [wrap_id (by omega) (by omega)];omega
  by_cases hm:L2.flatten.length+n < l.length
  ·obtain⟨s,rfl⟩:∃ s,L1=[s]:=by
    rcases L1 with _ | ⟨s1,_ | ⟨s2,L'⟩⟩
    ·simp only [List.length_nil,List.length_cons,Nat.zero_mul,Nat.zero_add,Nat.one_mul,Nat.add_mul] at hlen';omega
    ·exact⟨s1,rfl⟩
    ·simp at hone
   obtain⟨k1,o1⟩:=hB1 s List.mem_cons_self
   simp only [↓rA,rB,buildOk,nt_is,Int.reduceEq,Int.reduceLE,Int.reduceLT,Int.reduceToNat,Nat.reduceAdd,Nat.reduceEqDiff,Nat.reduceLT,Nat.reduceLeDiff,Nat.reduceMul,Nat.reduceSub,reduceCtorEq,tbGV0,Tryz.results88,gb,gr,g0,g1,g2,g6,g7,Int.ofNat_lt,hm,w1,w2,w1']
   rw [← hlen]
   refine OkF_with [_] [] (List.Perm.refl _) (?_:Ok _ _ _ _ (fun v bs rs=>v=.tup []∧rs=[]∧∃ Y,Y.Perm (s++t)∧Srt cf Y∧bs=[(b,.c (((L2.flatten++Y).map c).flatten++rest))])) ?_
   ·have hlen2:L2.flatten.length+n+t.length=l.length:=by simp only [List.length_nil,List.length_cons,Nat.zero_mul,Nat.zero_add,Nat.one_mul,Nat.add_mul] at hlen';omega
    have:=symM_ok hc ho hP g hg hcmp b cap rest _ (L2.flatten++([s].flatten++t)) L2.flatten s t [] (Nat.le_refl _) (by simp) (List.length_pos_iff.1 (by omega)) (List.length_pos_iff.1 (by omega)) o1 hst (by omega) (by omega)
    rw [k1,hlen2,← hlen] at this
    simpa only [List.append_nil] using this
   rintro v bs rs ⟨rfl,rfl,Y,hY,sY,rfl⟩
   have hYl:Y.length=n+t.length:=by rw [hY.length_eq,List.length_append,k1]
   simp only [↓rA,rB,buildOk,nt_is,Int.reduceEq,Int.reduceLE,Int.reduceLT,Int.reduceToNat,Nat.reduceAdd,Nat.reduceEqDiff,Nat.reduceLT,Nat.reduceLeDiff,Nat.reduceMul,Nat.reduceSub,reduceCtorEq,tbGV0,Tryz.results88,gb,gr,g0,g1,g2,g6,g7,w1,w1']
   rw [hlen]
   refine⟨(2 * n,L2,Y),by simp only;omega,0,?_,hB2,by simp only;omega,sY,⟨by simp only;omega,by simp only;omega⟩,rfl,rfl,rfl,rfl⟩
   refine List.Perm.trans (List.Perm.append_left _ ?_) hp
   simpa using hY
  ·have ht':∃ t',L1.flatten++t=t'∧t'.length < 2 * n∧Srt cf t':=by
    rcases L1 with _ | ⟨s1,_ | ⟨s2,L'⟩⟩
    ·exact⟨t,rfl,by omega,hst⟩
    ·obtain⟨k1,o1⟩:=hB1 s1 List.mem_cons_self
     have:t=[]:=List.length_eq_zero_iff.1 (by simp only [List.length_nil,List.length_cons,Nat.zero_mul,Nat.zero_add,Nat.one_mul,Nat.add_mul] at hlen';omega)
     subst this
     exact⟨s1,by simp,by omega,o1⟩
    ·simp at hone
   obtain⟨t',e,k1,o1⟩:=ht'
   rw [e] at gb hp
   simp only [↓rA,rB,buildOk,nt_is,Int.reduceEq,Int.reduceLE,Int.reduceLT,Int.reduceToNat,Nat.reduceAdd,Nat.reduceEqDiff,Nat.reduceLT,Nat.reduceLeDiff,Nat.reduceMul,Nat.reduceSub,reduceCtorEq,tbGV0,Tryz.results88,gb,gr,g0,g1,g2,g6,g7,Int.ofNat_lt,hm,w1,w2,w1']
   refine⟨(2 * n,L2,t'),by simp only;omega,0,hp,hB2,k1,o1,⟨by simp only;omega,by simp only;omega⟩,rfl,rfl⟩
 ·simp only [↓rA,rB,buildOk,nt_is,Int.reduceEq,Int.reduceLE,Int.reduceLT,Int.reduceToNat,Nat.reduceAdd,Nat.reduceEqDiff,Nat.reduceLT,Nat.reduceLeDiff,Nat.reduceMul,Nat.reduceSub,reduceCtorEq,tbGV0,Tryz.results88,gb,gr,g0,g1,g2,g6,Int.ofNat_lt,hlt]
  refine⟨_,[_],[],Le.refl _,List.Sublist.refl _,List.nil_sublist _,rfl,rfl,L.flatten++t,hp,?_,rfl⟩
  rcases L with _ | ⟨s1,_ | ⟨s2,L'⟩⟩
  ·exact hst
  ·obtain⟨k1,o1⟩:=hB s1 List.mem_cons_self
   have:t=[]:=List.length_eq_zero_iff.1 (by simp only [List.length_nil,List.length_cons,Nat.zero_mul,Nat.zero_add,Nat.one_mul,Nat.add_mul] at hlen';omega)
   subst this
   simpa using o1
  ·simp only [List.length_nil,List.length_cons,Nat.zero_mul,Nat.zero_add,Nat.one_mul,Nat.add_mul] at hlen'
   omega
def tbGV1:=(aI (aI (aI Ty.c88 Ty.t22) (aI Ty.t26 Ty.t28)) (aI (aI Ty.t3 Ty.t30) (aI Ty.t9 Ty.t99)))
theorem sortStable_ok {α:Type} {c:α→List V} (hc:∀ x,(c x).length=9) (ho:∀ x,okC (c x)=true) {cf:α→α→Int} (hP:Pre cf) (g:FuncId) (hg:callB Tryz.prog g=true) (hcmp:∀ x y,OkP Tryz.prog g [.agg (c x),.agg (c y)] (vint (cf x y)))
  (b cap:Nat) (l:List α) (rest:List V) (hl:l.length≤4000000) (hcap:l.length≤cap) :
  Ok Tryz.prog 69 [.lit (.slice (some ⟨b,0,none⟩) l.length cap),fnG g] [(b,.c ((l.map c).flatten++rest))] fun v bs rs =>
   v=.tup []∧rs=[]∧∃ l':List α,l'.Perm l∧Srt cf l'∧bs=[(b,.c ((l'.map c).flatten++rest))]:=by
 refine Ok.of_ex Ty.mixed Tryz.func69 rfl (by simp [Tryz.ntmps69]) (by kernel_rfl) fun F w0 I0=>?_
 simp only [↓rA,rB,buildOk,nt_is,Int.reduceEq,Int.reduceLE,Int.reduceLT,Int.reduceToNat,Nat.reduceAdd,Nat.reduceEqDiff,Nat.reduceLT,Nat.reduceLeDiff,Nat.reduceMul,Nat.reduceSub,reduceCtorEq,tbGV1,Tryz.results69]
 refine OkF_with [_] [] (List.Perm.refl _) (stable_ok hc ho hP g hg hcmp b cap l rest hl hcap) ?_
 rintro v bs rs ⟨rfl,rfl,Y,hY,sY,rfl⟩
 simp only [↓rA,rB,buildOk,nt_is,Int.reduceEq,Int.reduceLE,Int.reduceLT,Int.reduceToNat,Nat.reduceAdd,Nat.reduceEqDiff,Nat.reduceLT,Nat.reduceLeDiff,Nat.reduceMul,Nat.reduceSub,reduceCtorEq,tbGV1,Tryz.results69]
 exact⟨_,[_],[],Le.refl _,List.Sublist.refl _,List.nil_sublist _,rfl,rfl,Y,hY,sY,rfl⟩
end Go.Proofs.YtjdggbanifineaaGreat
