/- Merged out of my texts GA GP GS GR GD GH GM GI GJ GT GU GV GE E1 GK GF GB GO GQ GL GW. -/
import Derived.Test.YtjdggbanifineaaGreatKa
import Derived.Test.YtjdggbanifineaaGreatKVQa
import Derived.Test.YtjdggbanifineaaGreatKVR
import Derived.Lib.Overlaps
import Derived.Shelf.SortG.Plain
import Derived.Test.YtjdggbanifineaaGreatProg
import Derived.Shelf.SortG.SortNone
import Derived.Test.YtjdggbanifineaaGreatKVTw
import Derived.Test.YtjdggbanifineaaGreatKVMe
import Derived.Test.YtjdggbanifineaaGreatKVT
import Derived.Laws.Externs
import Derived.KernelRfl
set_option maxRecDepth 100000
namespace Go.Sg
structure Add (G:Type) where
 z:G
 add:G→G→G
 ok:G→Prop
 okz:ok z
 okadd:∀ {a b},ok a→ok b→ok (add a b)
 comm:∀ {a b},ok a→ok b→add a b=add b a
 assoc:∀ {a b c},ok a→ok b→ok c→add (add a b) c=add a (add b c)
 zadd:∀ {a},ok a→add z a=a
theorem Add.addz {G:Type} (A:Add G) {a:G} (h:A.ok a):A.add a A.z=a:=by rw [A.comm h A.okz];exact A.zadd h
theorem Add.swap {G:Type} (A:Add G) {a b c:G} (ha:A.ok a) (hb:A.ok b) (hc:A.ok c):A.add (A.add a b) c=A.add (A.add a c) b:=by
 rw [A.assoc ha hb hc,A.comm hb hc,← A.assoc ha hc hb]
def Add.prod {G H:Type} (A:Add G) (B:Add H):Add (G × H) where
 z:=(A.z,B.z)
 add a b:=(A.add a.1 b.1,B.add a.2 b.2)
 ok a:=A.ok a.1∧B.ok a.2
 okz:=⟨A.okz,B.okz⟩
 okadd h h':=⟨A.okadd h.1 h'.1,B.okadd h.2 h'.2⟩
 comm h h':=by rw [A.comm h.1 h'.1,B.comm h.2 h'.2]
 assoc h h' h'':=by simp only [A.assoc h.1 h'.1 h''.1,B.assoc h.2 h'.2 h''.2]
 zadd h:=by simp only [A.zadd h.1,B.zadd h.2]
structure Ord (K:Type) where
 lt:K→K→Bool
 irr:∀ a,lt a a=false
 tr:∀ {a b c},lt a b=true→lt b c=true→lt a c=true
 tot:∀ {a b},lt a b=false→lt b a=false→a=b
theorem Ord.asym {K:Type} (O:Ord K) {a b:K} (h:O.lt a b=true):O.lt b a=false:=by
 cases h':O.lt b a
 ·rfl
 ·have:=O.tr h h';rw [O.irr] at this;cases this
theorem Ord.ne {K:Type} (O:Ord K) {a b:K} (h:O.lt a b=true):a ≠ b:=fun e=>by subst e;rw [O.irr] at h;cases h
section
variable {K G:Type} [DecidableEq K] [DecidableEq G] (O:Ord K) (A:Add G)
def put (k:K) (g:G):List (K × G)→List (K × G)
 | []=>if g=A.z then [] else [(k,g)]
 | p::r=>if O.lt p.1 k=true then p::put k g r else if p.1=k then (if A.add p.2 g=A.z then r else (k,A.add p.2 g)::r) else (if g=A.z then p::r else (k,g)::p::r)
def get (O:Ord K) (A:Add G):List (K × G)→K→G
 | [],_=>A.z
 | p::r,k=>if p.1=k then p.2 else get O A r k
structure Canon (l:List (K × G)):Prop where
 sorted:l.Pairwise fun a b=>O.lt a.1 b.1=true
 val:∀ p ∈ l,p.2 ≠ A.z∧A.ok p.2
variable {O A}
omit [DecidableEq K] [DecidableEq G] in
theorem Canon.nil:Canon O A []:=⟨List.Pairwise.nil,fun _ hp=>absurd hp List.not_mem_nil⟩
omit [DecidableEq K] [DecidableEq G] in
theorem Canon.tail {p:K × G} {l:List (K × G)} (h:Canon O A (p::l)):Canon O A l:=⟨(List.pairwise_cons.1 h.sorted).2,fun q hq=>h.val q (List.mem_cons_of_mem _ hq)⟩
omit [DecidableEq G] in
theorem get_lt {k:K}:∀ {l:List (K × G)},(∀ p ∈ l,O.lt k p.1=true)→get O A l k=A.z
 | [],_=>rfl
 | p::r,h=>by
  unfold get
  rw [if_neg (fun e=>O.ne (h p List.mem_cons_self) e.symm)]
  exact get_lt fun q hq=>h q (List.mem_cons_of_mem _ hq)
omit [DecidableEq G] in
theorem Canon.get_head {p:K × G} {l:List (K × G)} (h:Canon O A (p::l)) {k:K} (hk:O.lt k p.1=true):get O A (p::l) k=A.z :=
 get_lt fun q hq=>by
  rcases List.mem_cons.1 hq with rfl | hq
  ·exact hk
  ·exact O.tr hk ((List.pairwise_cons.1 h.sorted).1 q hq)
omit [DecidableEq G] in
theorem Canon.get_ok:∀ {l:List (K × G)},Canon O A l→∀ k,A.ok (get O A l k)
 | [],_,_=>A.okz
 | p::r,h,k=>by
  unfold get
  split
  ·exact(h.val p List.mem_cons_self).2
  ·exact h.tail.get_ok k
omit [DecidableEq G] in
theorem Canon.ext:∀ {l m:List (K × G)},Canon O A l→Canon O A m→(∀ k,get O A l k=get O A m k)→l=m
 | [],[],_,_,_=>rfl
 | [],q::m,_,hm,h=>by
  have:=h q.1
  unfold get at this
  rw [if_pos rfl] at this
  exact absurd this.symm (hm.val q List.mem_cons_self).1
 | p::l,[],hl,_,h=>by
  have:=h p.1
  rw [show get O A (p::l) p.1=p.2 by unfold get;rw [if_pos rfl]] at this
  exact absurd this (hl.val p List.mem_cons_self).1
 | p::l,q::m,hl,hm,h=>by
  have e1:get O A (p::l) p.1=p.2:=by unfold get;rw [if_pos rfl]
  have e2:get O A (q::m) q.1=q.2:=by unfold get;rw [if_pos rfl]
  have hk:p.1=q.1:=by
   cases h1:O.lt p.1 q.1
   ·cases h2:O.lt q.1 p.1
    ·exact O.tot h1 h2
    ·have:=h q.1
     rw [e2,hl.get_head h2] at this
     exact absurd this.symm (hm.val q List.mem_cons_self).1
   ·have:=h p.1
    rw [e1,hm.get_head h1] at this
    exact absurd this (hl.val p List.mem_cons_self).1
  have hv:p.2=q.2:=by
   have:=h p.1
   rw [e1,hk,e2] at this
   exact this
  have hpq:p=q:=Prod.ext hk hv
  subst hpq
  rw [Canon.ext hl.tail hm.tail fun k=>?_]
  have:=h k
  by_cases e:p.1=k
  ·subst e
   have f1:=get_lt (A:=A) (List.pairwise_cons.1 hl.sorted).1
   have f2:=get_lt (A:=A) (List.pairwise_cons.1 hm.sorted).1
   rw [f1,f2]
  ·unfold get at this
   rwa [if_neg e,if_neg e] at this
theorem put_keys {k:K} {g:G}:∀ {l:List (K × G)} {q:K × G},q ∈ put O A k g l→q.1=k∨q ∈ l
 | [],q,h=>by
  unfold put at h
  split at h
  ·cases h
  ·rw [List.mem_singleton] at h;exact .inl (h▸rfl)
 | p::r,q,h=>by
  unfold put at h
  split at h
  ·rcases List.mem_cons.1 h with rfl | h
   ·exact .inr List.mem_cons_self
   ·exact(put_keys h).imp id (List.mem_cons_of_mem _)
  ·split at h
   ·split at h
    ·exact .inr (List.mem_cons_of_mem _ h)
    ·rcases List.mem_cons.1 h with rfl | h
     ·exact .inl rfl
     ·exact .inr (List.mem_cons_of_mem _ h)
   ·split at h
    ·exact .inr h
    ·rcases List.mem_cons.1 h with rfl | h
     ·exact .inl rfl
     ·exact .inr h
theorem Canon.put {k:K} {g:G} (hg:A.ok g):∀ {l:List (K × G)},Canon O A l→Canon O A (put O A k g l)
 | [],_=>by
  unfold Sg.put
  split
  ·exact Canon.nil
  ·rename_i h0
   exact⟨by simp,fun q hq=>by rw [List.mem_singleton] at hq;subst hq;exact⟨h0,hg⟩⟩
 | p::r,h=>by
  have hc:=List.pairwise_cons.1 h.sorted
  have ih:=h.tail.put (k:=k) hg
  have hp:=h.val p List.mem_cons_self
  unfold Sg.put
  split
  ·rename_i h1
   refine⟨List.pairwise_cons.2 ⟨fun q hq=>?_,ih.sorted⟩,fun q hq=>?_⟩
   ·rcases put_keys hq with e | hq
    ·rw [e];exact h1
    ·exact hc.1 q hq
   ·rcases List.mem_cons.1 hq with rfl | hq
    ·exact hp
    ·exact ih.val q hq
  ·rename_i h1
   split
   ·rename_i h2
    split
    ·exact h.tail
    ·rename_i h3
     refine⟨List.pairwise_cons.2 ⟨fun q hq=>h2▸hc.1 q hq,hc.2⟩,fun q hq=>?_⟩
     rcases List.mem_cons.1 hq with rfl | hq
     ·exact⟨h3,A.okadd hp.2 hg⟩
     ·exact h.val q (List.mem_cons_of_mem _ hq)
   ·rename_i h2
    have h4:O.lt k p.1=true:=by
     cases h5:O.lt k p.1
     ·exact absurd (O.tot (by simpa using h1) h5) h2
     ·rfl
    split
    ·exact h
    ·rename_i h3
     refine⟨List.pairwise_cons.2 ⟨fun q hq=>?_,h.sorted⟩,fun q hq=>?_⟩
     ·rcases List.mem_cons.1 hq with rfl | hq
      ·exact h4
      ·exact O.tr h4 (hc.1 q hq)
     ·rcases List.mem_cons.1 hq with rfl | hq
      ·exact⟨h3,hg⟩
      ·exact h.val q hq
theorem get_put {k:K} {g:G} (hg:A.ok g) (k':K):∀ {l:List (K × G)},Canon O A l→get O A (put O A k g l) k'=if k'=k then A.add (get O A l k) g else get O A l k'
 | [],_=>by
  unfold put
  split
  ·rename_i h0
   subst h0
   simp only [get]
   split
   ·exact(A.zadd hg).symm
   ·rfl
  ·simp only [get]
   by_cases e:k=k'
   ·rw [if_pos e,if_pos e.symm,A.zadd hg]
   ·rw [if_neg e,if_neg fun h=>e h.symm]
 | p::r,h=>by
  have hp:=h.val p List.mem_cons_self
  have ih:=get_put (k:=k) hg k' h.tail
  have hr:=get_lt (A:=A) (List.pairwise_cons.1 h.sorted).1
  unfold put
  split
  ·rename_i h1
   have hpk:p.1 ≠ k:=O.ne h1
   simp only [get,ih,if_neg hpk]
   by_cases e:p.1=k'
   ·rw [if_pos e,if_neg fun h=>hpk (e.trans h),if_pos e]
   ·rw [if_neg e,if_neg e]
  ·rename_i h1
   split
   ·rename_i h2
    subst h2
    have e0:get O A (p::r) p.1=p.2:=by simp only [get,if_true]
    split
    ·rename_i h3
     by_cases e:k'=p.1
     ·subst e
      rw [if_pos rfl,e0,hr,h3]
     ·rw [if_neg e]
      simp only [get]
      rw [if_neg fun h:p.1=k'=>e h.symm]
    ·rw [e0]
     by_cases e:p.1=k'
     ·subst e
      rw [if_pos rfl]
      simp only [get,if_true]
     ·rw [if_neg fun h=>e h.symm]
      simp only [get]
      rw [if_neg e,if_neg e]
   ·rename_i h2
    have h4:O.lt k p.1=true:=by
     cases h5:O.lt k p.1
     ·exact absurd (O.tot (by simpa using h1) h5) h2
     ·rfl
    have hk:=h.get_head h4
    split
    ·rename_i h3
     subst h3
     by_cases e:k'=k
     ·subst e;rw [if_pos rfl,hk,A.zadd A.okz]
     ·rw [if_neg e]
    ·by_cases e:k'=k
     ·subst e
      rw [if_pos rfl,hk,A.zadd hg]
      simp only [get,if_true]
     ·rw [if_neg e]
      simp only [get]
      rw [if_neg fun h=>e h.symm]
def puts (O:Ord K) (A:Add G) (l:List (K × G)) (m:List (K × G)):List (K × G):=m.foldl (fun l p=>put O A p.1 p.2 l) l
def sumAt (O:Ord K) (A:Add G):List (K × G)→K→G
 | [],_=>A.z
 | p::m,k=>if p.1=k then A.add p.2 (sumAt O A m k) else sumAt O A m k
omit [DecidableEq G] in
theorem sumAt_ok {m:List (K × G)} (h:∀ p ∈ m,A.ok p.2) (k:K):A.ok (sumAt O A m k):=by
 induction m with
 | nil=>exact A.okz
 | cons p m ih =>
  have:=ih fun q hq=>h q (List.mem_cons_of_mem _ hq)
  simp only [sumAt]
  split
  ·exact A.okadd (h p List.mem_cons_self) this
  ·exact this
theorem puts_spec:∀ {m l:List (K × G)},Canon O A l→(∀ p ∈ m,A.ok p.2)→Canon O A (puts O A l m)∧∀ k,get O A (puts O A l m) k=A.add (get O A l k) (sumAt O A m k)
 | [],l,hl,_=>⟨hl,fun k=>(A.addz (hl.get_ok k)).symm⟩
 | p::m,l,hl,hm=>by
  have hp:=hm p List.mem_cons_self
  have hm':=fun q hq=>hm q (List.mem_cons_of_mem _ hq)
  obtain⟨h1,h2⟩:=puts_spec (m:=m) (hl.put (k:=p.1) hp) hm'
  refine⟨h1,fun k=>?_⟩
  have hs:=sumAt_ok (O:=O) hm' k
  show get O A (puts O A (put O A p.1 p.2 l) m) k=_
  rw [h2 k,get_put hp k hl]
  simp only [sumAt]
  by_cases e:p.1=k
  ·subst e
   rw [if_pos rfl,if_pos rfl,A.assoc (hl.get_ok _) hp hs]
  ·rw [if_neg fun h=>e h.symm,if_neg e]
omit [DecidableEq G] in
theorem sumAt_perm {m n:List (K × G)} (h:m.Perm n) (hm:∀ p ∈ m,A.ok p.2) (k:K):sumAt O A m k=sumAt O A n k:=by
 induction h with
 | nil=>rfl
 | cons x h ih=>simp only [sumAt];rw [ih fun q hq=>hm q (List.mem_cons_of_mem _ hq)]
 | swap x y l =>
  have hs:=sumAt_ok (O:=O) (A:=A) (m:=l) (fun q hq=>hm q (List.mem_cons_of_mem _ (List.mem_cons_of_mem _ hq))) k
  have hx:=hm x (List.mem_cons_of_mem _ List.mem_cons_self)
  have hy:=hm y List.mem_cons_self
  simp only [sumAt]
  by_cases e1:x.1=k <;> by_cases e2:y.1=k <;> simp only [e1,e2,if_true,if_false]
  rw [← A.assoc hy hx hs,A.comm hy hx,A.assoc hx hy hs]
 | trans h1 _ ih1 ih2=>exact(ih1 hm).trans (ih2 fun q hq=>hm q (h1.mem_iff.2 hq))
omit [DecidableEq G] in
theorem Canon.sum:∀ {l:List (K × G)},Canon O A l→∀ k,sumAt O A l k=get O A l k
 | [],_,_=>rfl
 | p::r,h,k=>by
  have ih:=h.tail.sum k
  simp only [sumAt,get]
  split
  ·rename_i e
   subst e
   rw [ih,get_lt (List.pairwise_cons.1 h.sorted).1,A.addz (h.val p List.mem_cons_self).2]
  ·exact ih
end
section
variable {K G:Type} [DecidableEq K] [DecidableEq G] {O:Ord K} {A:Add G}
def single (A:Add G) (k:K) (g:G):List (K × G):=if g=A.z then [] else [(k,g)]
end
def Add.map {K G:Type} [DecidableEq K] [DecidableEq G] (O:Ord K) (A:Add G):Add (List (K × G)) where
 z:=[]
 add l m:=puts O A l m
 ok l:=Canon O A l
 okz:=Canon.nil
 okadd h h':=(puts_spec h fun p hp=>(h'.val p hp).2).1
 comm {a b} h h':=by
  have s1:=puts_spec h fun p hp=>(h'.val p hp).2
  have s2:=puts_spec h' fun p hp=>(h.val p hp).2
  exact Canon.ext s1.1 s2.1 fun k=>by rw [s1.2,s2.2,h.sum,h'.sum,A.comm (h.get_ok k) (h'.get_ok k)]
 assoc {a b c} h h' h'':=by
  have s1:=puts_spec h fun p hp=>(h'.val p hp).2
  have s2:=puts_spec s1.1 fun p hp=>(h''.val p hp).2
  have s3:=puts_spec h' fun p hp=>(h''.val p hp).2
  have s4:=puts_spec h fun p hp=>(s3.1.val p hp).2
  exact Canon.ext s2.1 s4.1 fun k=>by rw [s2.2,s1.2,s4.2,s3.1.sum,s3.2,h'.sum,h''.sum,A.assoc (h.get_ok k) (h'.get_ok k) (h''.get_ok k)]
 zadd {a} h:=by
  have s1:=puts_spec (Canon.nil (O:=O) (A:=A)) fun p hp=>(h.val p hp).2
  exact Canon.ext s1.1 h fun k=>by rw [s1.2,h.sum];exact A.zadd (h.get_ok k)
theorem single_canon {K G:Type} [DecidableEq K] [DecidableEq G] (O:Ord K) (A:Add G) {k:K} {g:G} (h:A.ok g):Canon O A (single A k g):=by
 unfold single
 split
 ·exact Canon.nil
 ·rename_i h0
  exact⟨by simp,fun q hq=>by rw [List.mem_singleton] at hq;subst hq;exact⟨h0,h⟩⟩
theorem puts_single {K G:Type} [DecidableEq K] [DecidableEq G] (O:Ord K) (A:Add G) {l:List (K × G)} (hl:Canon O A l) (k:K) {g:G} (hg:A.ok g):puts O A l (single A k g)=put O A k g l:=by
 unfold single
 split
 ·rename_i h0
  subst h0
  refine Canon.ext hl (hl.put hg) fun k'=>?_
  rw [get_put hg k' hl]
  split
  ·rename_i e;subst e;exact(A.addz (hl.get_ok _)).symm
  ·rfl
 ·rfl
end Go.Sg
set_option maxRecDepth 100000
set_option linter.unusedSimpArgs false
namespace Go.Ar
open Go.VL
structure Pre {α:Type} (c:α→α→Int):Prop where
 anti:∀ a b,c b a=- c a b
 trans:∀ a b d,c a b≤0→c b d≤0→c a d≤0
section
variable {α β:Type}
theorem Pre.refl {c:α→α→Int} (h:Pre c) (a:α):c a a=0:=by have:=h.anti a a;omega
theorem Pre.pull {c:α→α→Int} (h:Pre c) (f:β→α):Pre fun a b=>c (f a) (f b):=⟨fun _ _=>h.anti _ _,fun _ _ _=>h.trans _ _ _⟩
theorem Pre.lex {c d:α→α→Int} (h:Pre c) (h':Pre d):Pre fun a b=>if c a b=0 then d a b else c a b where
 anti a b:=by
  have e:=h.anti a b
  by_cases h0:c a b=0
  ·rw [if_pos h0,if_pos (by omega)];exact h'.anti a b
  ·rw [if_neg h0,if_neg (by omega)];exact e
 trans a b x:=by
  have e1:=h.anti a b;have e2:=h.anti b x;have e3:=h.anti a x
  have t1:=h.trans a b x;have t2:=h.trans x a b;have t3:=h.trans b x a
  have t4:=h.trans a x b;have t5:=h.trans b a x;have t6:=h.trans x b a
  have t:=h'.trans a b x
  intro h1 h2
  split at h1 <;> split at h2 <;> split <;> first | omega | (exact t h1 h2)
theorem Pre.lt_trans {c:α→α→Int} (h:Pre c) {a b d:α} (h1:c a b < 0) (h2:c b d < 0):c a d < 0:=by
 have e1:=h.anti a b;have e2:=h.anti b d;have e3:=h.anti a d
 have t1:=h.trans a b d (by omega) (by omega)
 have t2:=h.trans d a b
 omega
end
theorem pre_cmpI:Pre cmpI:=⟨fun a b=>by unfold cmpI;repeat' split;all_goals omega,fun a b d=>by unfold cmpI;repeat' split;all_goals omega⟩
def cmpB (a b:List UInt8):Int:=if Op.bytesLess a b=true then -1 else if a=b then 0 else 1
theorem pre_cmpB:Pre cmpB:=by
 have cons:∀ (x y:UInt8) (l m:List UInt8),cmpB (x::l) (y::m)=if cmpI x.toNat y.toNat=0 then cmpB l m else cmpI x.toNat y.toNat:=by
  intro x y l m
  unfold cmpB cmpI
  simp only [Op.bytesLess,UInt8.lt_iff_toNat_lt,List.cons.injEq]
  by_cases e:x=y
  ·subst e;simp
  ·have:x.toNat ≠ y.toNat:=fun h=>e (UInt8.toNat_inj.1 h)
   rcases Nat.lt_or_gt_of_ne this with h | h
   ·simp [h,e]
   ·simp [e,Nat.not_lt.2 (Nat.le_of_lt h),h,show ¬ ((x.toNat:Int) < y.toNat) by omega]
 have nil1:∀ (y:UInt8) (m:List UInt8),cmpB [] (y::m)=-1:=fun _ _=>by simp [cmpB,Op.bytesLess]
 have nil2:∀ (y:UInt8) (m:List UInt8),cmpB (y::m) []=1:=fun _ _=>by simp [cmpB,Op.bytesLess]
 have nil:cmpB [] []=0:=by simp [cmpB,Op.bytesLess]
 refine⟨fun a=>?_,fun a=>?_⟩
 ·induction a with
  | nil=>intro b;cases b <;> simp [nil,nil1,nil2]
  | cons x a ih=>intro b;cases b with
   | nil=>simp [nil1,nil2]
   | cons y b =>
    rw [cons,cons,ih b,pre_cmpI.anti]
    by_cases h:cmpI (x.toNat:Int) y.toNat=0
    ·rw [if_pos h,if_pos (by omega)]
    ·rw [if_neg h,if_neg (by omega)]
 ·induction a with
  | nil=>intro b d;cases b <;> cases d <;> simp [nil,nil1,nil2]
  | cons x a ih=>intro b d;cases b with
   | nil=>simp [nil2]
   | cons y b=>cases d with
    | nil=>intro _ h;simp [nil2] at h
    | cons z d =>
     rw [cons,cons,cons]
     have e1:=pre_cmpI.anti (x.toNat:Int) y.toNat;have e2:=pre_cmpI.anti (y.toNat:Int) z.toNat;have e3:=pre_cmpI.anti (x.toNat:Int) z.toNat
     have t1:=pre_cmpI.trans (x.toNat:Int) y.toNat z.toNat;have t2:=pre_cmpI.trans (z.toNat:Int) x.toNat y.toNat;have t3:=pre_cmpI.trans (y.toNat:Int) z.toNat x.toNat
     have t:=ih b d
     intro h1 h2
     split at h1 <;> split at h2 <;> split <;> first | omega | (exact t h1 h2)
theorem cmpS_B (a b:Str):cmpS a b=cmpB a.data.toList b.data.toList:=by
 have:(a=b)↔(a.data.toList=b.data.toList):=⟨fun h=>by rw [h],fun h=>ByteArray.ext (Array.ext' h)⟩
 unfold cmpS cmpB less
 by_cases h:Op.bytesLess a.data.toList b.data.toList=true
 ·simp [h]
 ·by_cases e:a=b
  ·simp [h,e]
  ·have e':¬ a.data.toList=b.data.toList:=fun x=>e (this.2 x)
   rw [if_neg h,if_neg h,if_neg e',if_neg]
   simpa [h] using e
theorem pre_cmpS:Pre cmpS:=by
 have:=pre_cmpB.pull fun s:Str=>s.data.toList
 rwa [show cmpS=fun a b=>cmpB a.data.toList b.data.toList from funext fun a=>funext fun b=>cmpS_B a b]
theorem orL2 (a b:Int):orL [a,b]=if a=0 then b else a:=by
 simp only [orL]
 by_cases h:a=0
 ·by_cases h':b=0 <;> simp [h,h']
 ·simp [h]
theorem orL_cons (a:Int) (l:List Int):orL (a::l)=if a=0 then orL l else a:=rfl
theorem pre_cmpID:Pre cmpID:=by
 have h:=(pre_cmpS.pull FID.src).lex (pre_cmpI.pull FID.seq)
 have e:cmpID=fun a b=>if cmpS a.src b.src=0 then cmpI a.seq b.seq else cmpS a.src b.src:=by
  funext a b
  unfold cmpID
  rw [orL2]
  by_cases e:a=b
  ·subst e;simp [cmpS_refl,cmpI]
  ·simp [e]
 rwa [e]
theorem pre_cmpVal:Pre cmpVal:=by
 have h:=(pre_cmpI.pull Val.kind).lex ((pre_cmpI.pull Val.n).lex (pre_cmpS.pull Val.s))
 rwa [show cmpVal=_ from funext fun a=>funext fun b=>show orL _=_ by rw [orL_cons,orL2]]
theorem ite0 {x y:Int} (h:(if x=0 then y else x)=0):x=0∧y=0:=by
 split at h
 ·rename_i h0;exact⟨h0,h⟩
 ·contradiction
theorem cmpVal_eq0 {a b:Val}:cmpVal a b=0↔a=b:=by
 unfold cmpVal
 rw [orL_cons,orL2]
 constructor
 ·intro h
  split at h
  ·rename_i h1
   split at h
   ·rename_i h2
    have q1:=cmpI_eq0.1 h1;have q2:=cmpI_eq0.1 h2;have q3:=cmpS_eq0.1 h
    cases a;cases b;simp_all
   ·contradiction
  ·contradiction
 ·rintro rfl;simp [cmpI_eq0.2,cmpS_eq0.2]
def ordOf {K:Type} (c:K→K→Int) (h:Pre c) (h0:∀ {a b},c a b=0→a=b):Sg.Ord K where
 lt a b:=decide (c a b < 0)
 irr a:=by rw [h.refl];rfl
 tr {a b d} h1 h2:=by
  rw [decide_eq_true_eq] at *
  exact h.lt_trans h1 h2
 tot {a b} h1 h2:=by
  rw [decide_eq_false_iff_not] at *
  have:=h.anti a b
  exact h0 (by omega)
end Go.Ar
set_option maxRecDepth 100000
namespace Go.Ar
open Go.VL
section
variable {α:Type} {c:α→α→Int}
def Srt (c:α→α→Int) (l:List α):Prop:=l.Pairwise fun a b=>c a b≤0
theorem Srt.nil:Srt c []:=List.Pairwise.nil
theorem Srt.one (a:α):Srt c [a]:=by simp [Srt]
theorem srt_append {l m:List α}:Srt c (l++m)↔Srt c l∧Srt c m∧∀ a ∈ l,∀ b ∈ m,c a b≤0:=List.pairwise_append
theorem Srt.left {l m:List α} (h:Srt c (l++m)):Srt c l:=(srt_append.1 h).1
theorem Srt.right {l m:List α} (h:Srt c (l++m)):Srt c m:=(srt_append.1 h).2.1
theorem Pre.le_trans (h:Pre c) {a b d:α} (h1:c a b≤0) (h2:c b d≤0):c a d≤0:=h.trans _ _ _ h1 h2
end
end Go.Ar
set_option maxRecDepth 100000
namespace Go.Ar
open Go.VL
section
variable {α:Type} {c:α→List V} {k:Nat}
theorem flatK_len (hc:∀ x,(c x).length=k) (l:List α):((l.map c).flatten).length=l.length * k:=by
 rw [flatten_len (k:=k) (by simpa using fun x _=>hc x),List.length_map]
theorem cellsK_len (hc:∀ x,(c x).length=k) (l:List α) (rest:List V):((l.map c).flatten++rest).length=l.length * k+rest.length:=by
 rw [List.length_append,flatK_len hc]
theorem get_cells (hc:∀ x,(c x).length=k) (l:List α) (rest:List V) (i:Nat) (hi:i < l.length):(((l.map c).flatten++rest).drop (i * k)).take k=c l[i]:=cut_block hc l rest i hi
theorem room_cells (hc:∀ x,(c x).length=k) (l:List α) (rest:List V) (i:Nat) (hi:i < l.length):i * k+k≤((l.map c).flatten++rest).length:=by
 rw [cellsK_len hc]
 have:i * k+k≤l.length * k:=by rw [← Nat.succ_mul];exact Nat.mul_le_mul_right k hi
 omega
theorem left_cells (hc:∀ x,(c x).length=k) (l:List α) (rest:List V) (i:Nat) (hi:i < l.length):k≤(((l.map c).flatten++rest).drop (i * k)).length:=by
 have:=room_cells hc l rest i hi
 rw [List.length_drop];omega
theorem get_form {l A C:List α} {x:α} {i:Nat} (h:l=A++x::C) (ei:i=A.length) (hi:i < l.length):l[i]=x:=by
 subst h ei;simp
theorem get_mid {l A B C:List α} (h:l=A++(B++C)) {t i:Nat} (ei:i=A.length+t) (ht:t < B.length) (hi:i < l.length):l[i]=B[t]:=by
 subst h ei
 rw [List.getElem_append_right (by omega),List.getElem_append_left (by omega)]
 simp
theorem mid_eq {i k:Nat} (hi:i≤k) (hk:k≤4500000):IntKind.i64.wrap ((IntKind.u64.wrap (IntKind.i64.wrap ((i:Int)+(k:Int)))).fdiv (2 ^ min 1 IntKind.u64.bits))=(((i+k) / 2:Nat):Int):=by
 have e1:IntKind.i64.wrap ((i:Int)+(k:Int))=(i:Int)+k:=wrap_id (by omega) (by omega)
 have e2:IntKind.u64.wrap ((i:Int)+(k:Int))=(i:Int)+k:=by
  simp only [IntKind.wrap,IntKind.signed,IntKind.bits,Bool.false_and,Bool.false_eq_true,if_false]
  omega
 rw [e1,e2,show min 1 IntKind.u64.bits=1 from rfl,Int.fdiv_eq_ediv_of_nonneg _ (by decide),wrap_id (by omega) (by omega)]
 omega
end
end Go.Ar
set_option linter.unusedSimpArgs false
set_option maxRecDepth 100000
set_option linter.defProp false
namespace Go.Ar
open Go.VL Go.Sg
structure PK where
 key:Str
 event:Int
 id:FID
 val:Val
 tick:Int
 deriving DecidableEq
abbrev Pk:=PK × Int
abbrev cPk (p:Pk):List V:=[vstr p.1.key,vstr p.1.id.src,vint p.1.id.seq,vint p.1.event,vint p.1.val.kind,vint p.1.val.n,vstr p.1.val.s,vint p.1.tick,vint p.2]
abbrev vPks (l:List Pk):V:=.list none 9 (l.map cPk)
def cmpPK (a b:PK):Int:=orL [cmpS a.key b.key,cmpI a.event b.event,cmpID a.id b.id,cmpVal a.val b.val,cmpI a.tick b.tick]
theorem pre_cmpPK:Pre cmpPK:=by
 have h:=(pre_cmpS.pull PK.key).lex ((pre_cmpI.pull PK.event).lex ((pre_cmpID.pull PK.id).lex ((pre_cmpVal.pull PK.val).lex (pre_cmpI.pull PK.tick))))
 rwa [show cmpPK=_ from funext fun a=>funext fun b=>show orL _=_ by rw [orL_cons,orL_cons,orL_cons,orL2]]
theorem cmpPK_eq0 {a b:PK}:cmpPK a b=0↔a=b:=by
 unfold cmpPK
 rw [orL_cons,orL_cons,orL_cons,orL2]
 constructor
 ·intro h
  obtain⟨h1,h⟩:=ite0 h
  obtain⟨h2,h⟩:=ite0 h
  obtain⟨h3,h⟩:=ite0 h
  obtain⟨h4,h5⟩:=ite0 h
  have q1:=cmpS_eq0.1 h1;have q2:=cmpI_eq0.1 h2;have q3:=cmpID_eq0.1 h3;have q4:=cmpVal_eq0.1 h4;have q5:=cmpI_eq0.1 h5
  cases a;cases b;simp_all
 ·rintro rfl
  simp [cmpS_eq0.2,cmpI_eq0.2,cmpID_eq0.2,cmpVal_eq0.2]
def ordP:Sg.Ord PK:=ordOf cmpPK pre_cmpPK fun h=>cmpPK_eq0.1 h
def inW (n:Int):Prop:=-9223372036854775808≤n∧n < 9223372036854775808
theorem wrap_in (n:Int):inW (IntKind.i64.wrap n):=by
 unfold inW
 rw [IntKind.wrap_i64];omega
def addW:Sg.Add Int where
 z:=0
 add a b:=IntKind.i64.wrap (a+b)
 ok:=inW
 okz:=by unfold inW;omega
 okadd _ _:=wrap_in _
 comm _ _:=by rw [Int.add_comm]
 assoc {a b c} _ _ _:=by simp only [IntKind.wrap_i64];omega
 zadd {a} h:=by unfold inW at h;rw [Int.zero_add,wrap_id (by omega) (by omega)]
def consP (l:List Pk):List Pk:=puts ordP addW [] l
end Go.Ar
namespace Go.Proofs.YtjdggbanifineaaGreat
open Go.VL Go.Ar Go.Sg Go.Proofs.YtjdggbanifineaaGreat Go.Proofs.YtjdggbanifineaaGreat.Arr
def tbGD4:=(aI (aI Ty.t22 (aI Ty.t26 Ty.t28)) (aI (aI Ty.t3 Ty.t30) (aI Ty.t4 Ty.t9)))
theorem cloneP_ok (l:List Pk) (hl:l.length≤100000):Ok Tryz.prog 20 [vPks l] [] fun v bs rs=>rs=[]∧((l=[]∧v=nilS∧bs=[])∨∃ b c,l.length≤c∧v=.lit (.slice (some ⟨b,0,none⟩) l.length c)∧bs=[(b,.c ((l.map cPk).flatten++anys ((c - l.length) * 9)))]):=by
 cases l with
 | nil =>
  refine Ok.list0 (fun c=>?_) (fun p c=>?_)
  ·refine Ok.of_ex Ty.mixed Tryz.func20 rfl (by simp [Tryz.ntmps20]) (by kernel_rfl) fun F w0 I0=>?_
   simp only [↓rA,rB,buildOk,nt_is,Int.reduceEq,Int.reduceLE,Int.reduceLT,Int.reduceToNat,Nat.reduceAdd,Nat.reduceEqDiff,Nat.reduceLT,Nat.reduceLeDiff,Nat.reduceMul,Nat.reduceSub,reduceCtorEq,tbGD4,Tryz.results20]
   exact⟨nilS,[],[],Le.refl _,List.nil_sublist _,List.nil_sublist _,rfl,.inl ⟨rfl,rfl⟩⟩
  ·refine Ok.of_ex Ty.mixed Tryz.func20 rfl (by simp [Tryz.ntmps20]) (by kernel_rfl) fun F w0 I0=>?_
   simp only [↓rA,rB,buildOk,nt_is,Int.reduceEq,Int.reduceLE,Int.reduceLT,Int.reduceToNat,Nat.reduceAdd,Nat.reduceEqDiff,Nat.reduceLT,Nat.reduceLeDiff,Nat.reduceMul,Nat.reduceSub,reduceCtorEq,tbGD4,Tryz.results20]
   refine Or2.r ?_
   simp only [↓rA,rB,buildOk,nt_is,Int.reduceEq,Int.reduceLE,Int.reduceLT,Int.reduceToNat,Nat.reduceAdd,Nat.reduceEqDiff,Nat.reduceLT,Nat.reduceLeDiff,Nat.reduceMul,Nat.reduceSub,reduceCtorEq,tbGD4,Tryz.results20]
   refine fun b1 h1=>?_;replace h1:=newb h1;try simp only [Nb] at h1
   simp only [↓rA,rB,buildOk,nt_is,Int.reduceEq,Int.reduceLE,Int.reduceLT,Int.reduceToNat,Nat.reduceAdd,Nat.reduceEqDiff,Nat.reduceLT,Nat.reduceLeDiff,Nat.reduceMul,Nat.reduceSub,reduceCtorEq,tbGD4,Tryz.results20,h1]
   refine Or2.r ?_
   simp only [↓rA,rB,buildOk,nt_is,Int.reduceEq,Int.reduceLE,Int.reduceLT,Int.reduceToNat,Nat.reduceAdd,Nat.reduceEqDiff,Nat.reduceLT,Nat.reduceLeDiff,Nat.reduceMul,Nat.reduceSub,reduceCtorEq,tbGD4,Tryz.results20,h1,remB]
   refine⟨by simp,fun b c' hb hc=>?_⟩
   simp only [↓rA,rB,buildOk,nt_is,Int.reduceEq,Int.reduceLE,Int.reduceLT,Int.reduceToNat,Nat.reduceAdd,Nat.reduceEqDiff,Nat.reduceLT,Nat.reduceLeDiff,Nat.reduceMul,Nat.reduceSub,reduceCtorEq,tbGD4,Tryz.results20,h1,remB]
   refine⟨_,[_],[],Le.refl _,List.Sublist.refl _,List.nil_sublist _,rfl,?_⟩
   first | exact .inr ⟨b,c',rfl,by simp⟩ | exact⟨b,c',rfl,by simp⟩
 | cons x l =>
  refine Ok.of_ex Ty.mixed Tryz.func20 rfl (by simp [Tryz.ntmps20]) (by kernel_rfl) fun F w0 I0=>?_
  simp only [↓rA,rB,buildOk,nt_is,Int.reduceEq,Int.reduceLE,Int.reduceLT,Int.reduceToNat,Nat.reduceAdd,Nat.reduceEqDiff,Nat.reduceLT,Nat.reduceLeDiff,Nat.reduceMul,Nat.reduceSub,reduceCtorEq,tbGD4,Tryz.results20]
  refine Or2.r ?_
  simp only [↓rA,rB,buildOk,nt_is,Int.reduceEq,Int.reduceLE,Int.reduceLT,Int.reduceToNat,Nat.reduceAdd,Nat.reduceEqDiff,Nat.reduceLT,Nat.reduceLeDiff,Nat.reduceMul,Nat.reduceSub,reduceCtorEq,tbGD4,Tryz.results20]
  refine fun b1 h1=>?_;replace h1:=newb h1;try simp only [Nb] at h1
  simp only [↓rA,rB,buildOk,nt_is,Int.reduceEq,Int.reduceLE,Int.reduceLT,Int.reduceToNat,Nat.reduceAdd,Nat.reduceEqDiff,Nat.reduceLT,Nat.reduceLeDiff,Nat.reduceMul,Nat.reduceSub,reduceCtorEq,tbGD4,Tryz.results20,h1]
  refine Or2.r ?_
  simp only [↓rA,rB,buildOk,nt_is,Int.reduceEq,Int.reduceLE,Int.reduceLT,Int.reduceToNat,Nat.reduceAdd,Nat.reduceEqDiff,Nat.reduceLT,Nat.reduceLeDiff,Nat.reduceMul,Nat.reduceSub,reduceCtorEq,tbGD4,Tryz.results20,h1,remB]
  refine⟨⟨by simp,by rw [List.length_map];simp only [List.length_cons] at hl;omega⟩,fun b c' hb hc=>?_⟩
  simp only [↓rA,rB,buildOk,nt_is,Int.reduceEq,Int.reduceLE,Int.reduceLT,Int.reduceToNat,Nat.reduceAdd,Nat.reduceEqDiff,Nat.reduceLT,Nat.reduceLeDiff,Nat.reduceMul,Nat.reduceSub,reduceCtorEq,tbGD4,Tryz.results20,h1,remB]
  refine⟨_,[_],[],Le.refl _,List.Sublist.refl _,List.nil_sublist _,rfl,b,c',by simpa using hc,by simp,by simp⟩
end Go.Proofs.YtjdggbanifineaaGreat
set_option linter.unusedSimpArgs false
set_option maxRecDepth 100000
namespace Go.Proofs.YtjdggbanifineaaGreat
open Go.VL Go.Ar Go.Proofs.YtjdggbanifineaaGreat Go.Proofs.YtjdggbanifineaaGreat.Arr
theorem anys_len (n:Nat):(anys n).length=n:=by unfold anys;rw [List.length_replicate]
theorem run_overlaps_box {P:Program} (w:World) (tS tR e:TypeId) (ht:P.underlying tS=some (.slice e)) (size:Nat) (hz:∀ w,(Go.sizeOf e).run P w=.ok size w)
  (a b:Addr) (la ca lb cb:Nat) (hne:a.block ≠ b.block) (tA tB:TypeId) (kA kB:Nat) (hsa:w.shape? a.block=some (tA,kA+1)) (hsb:w.shape? b.block=some (tB,kB)) (hfb:∀ o,w.frozen? ⟨b.block,o,none⟩=false) (hsp:b.spot=none) :
  (Extern.SlicesOverlaps.overlaps #[tS,tS] #[tR] #[.slice (some a) la ca,.slice (some b) lb cb]).run P w=.ok (.bool false) w:=by
 have hnb:(a.block != b.block)=true:=by simpa using hne
 have hnb':(a.block == b.block)=false:=by simpa using hne
 have hb0:w.frozen? b=false:=by
  have:=hfb b.off
  obtain⟨bb,bo,bs⟩:=b
  simp only at hsp;subst hsp;exact this
 have hb1:=hfb kB
 change Sem.run P (α:=Value) (do
  let some t := (#[tS, tS] : Array TypeId)[0]? | stuck "slices.overlaps: no parameter types"
  let .slice elem ← underlying t | stuck "slices.overlaps: slice type expected"
  let size ← sizeOf elem
  match (some a:Option Addr),(some b:Option Addr) with
  | some a,some b =>
   if la=0∨lb=0∨size=0 then pure (Value.bool false)
   else if a.block != b.block && (← frozen a) && (← frozen b) then unsupported .addressObserved
   else do
    if a.block != b.block then do
     noView a;noView b
     if ← mayBeOne a b then return Value.bool ((← choose (.extern "sameAddr.stringBytes" 2)) == 1)
    pure (Value.bool (a.block == b.block && a.off < b.off+lb * size && b.off < a.off+la * size))
  | _,_=>pure (Value.bool false)) w=_
 by_cases h0:la=0∨lb=0∨size=0
 ·simp [run_underlying ht,hz,h0]
 ·cases h1:w.frozen? a <;> cases h2:w.frozen? { block:=a.block,off:=kA+1 } <;>
   simp [run_underlying ht,hz,h0,hnb,hnb',frozen,noView,viewAt,mayBeOne,stringish,shape,Sem.run,hsa,hsb,hb0,hb1,h1,h2]
theorem appZK_box {P:Program} {S:St} {d:Option Nat} {t tx:TypeId} {b o n c:Nat} {kk:IntKind} {j:Int} {K:St→Prop}
  (h:onSome (Todo (P.underlying t)) fun u=>sliceOf u fun e=>onSome (Todo (P.underlying tx)) fun ux=>And2 (Todo (∃ q,ux=.int q)) (onSome (Todo (tsz P e)) fun k=>onSome (Todo (tby P e)) fun by_=>onSome (Todo (tzr P e)) fun z=>onSome (Todo (getB S.boxes b)) fun cs =>
   And2 (Todo ((0 < by_∧0 < k∧z.length=k∧okC (z.map .lit)=true)∧0 < j∧o+n * k≤cs.length∧c < n+j.toNat∧(n+j.toNat) * by_≤140737488355328))
    (Fresh2 (blks S.boxes S.rows) (n+j.toNat) (fun b' c'=>K ((S.addBox b' ((cs.drop o).take (n * k)++anys ((c' - n) * k))).put d (.lit (.slice (some ⟨b',0,none⟩) (n+j.toNat) c')))) .mk))) :
  appZK P S d t tx (.lit (.slice (some ⟨b,o,none⟩) n c)) (.lit (.int kk j)) K:=by
 refine appZK_int _ _ _ _ _ _ _ _ _ _ _ _ ?_
 simp only [Todo_eq,And2,Fresh2] at h
 revert h
 unfold onSome
 cases P.underlying t with
 | none=>exact id
 | some u =>
  cases u <;> simp only [sliceOf] <;> try exact id
  cases P.underlying tx with
  | none=>exact id
  | some ux =>
   simp only []
   rintro⟨h1,h⟩
   refine⟨h1,?_⟩
   revert h
   split <;> try exact id
   split <;> try exact id
   split <;> try exact id
   split <;> try exact id
   rintro⟨⟨q1,q2,q3,q4,q5⟩,h⟩
   exact⟨q1,q2,q3,q4,q5,h⟩
theorem anys_add (a b:Nat):anys (a+b)=anys a++anys b:=by unfold anys;rw [List.replicate_append_replicate]
theorem grow1 (cs g:List V) (i n c':Nat) (hg:g.length=6) (hi:i < n) (hcs:n * 6≤cs.length) (hc:n+1≤c') :
  List.take (i * 6) (List.take (i * 6) cs++anys ((c' - i) * 6))++List.take (min 1 (n+1 - i) * 6) [g].flatten++List.drop (i * 6+min 1 (n+1 - i) * 6) (List.take (i * 6) cs++anys ((c' - i) * 6))
   = List.take (i * 6) cs++g++anys ((c' - (i+1)) * 6):=by
 have hA:(List.take (i * 6) cs).length=i * 6:=by rw [List.length_take];omega
 have hm:min 1 (n+1 - i)=1:=by omega
 have hs:(c' - i) * 6=6+(c' - (i+1)) * 6:=by omega
 rw [hm,List.take_left' hA,show [g].flatten=g by simp,List.take_of_length_le (l:=g) (by omega),hs,anys_add,show i * 6+1 * 6=i * 6+6 by omega,← List.drop_drop,List.drop_left' hA,List.drop_left' (anys_len 6)]
theorem grow2 (cs g:List V) (i n c':Nat) (hg:g.length=6) (hi:i < n) (hcs:n * 6≤cs.length) (hc:n+1≤c') :
  List.take ((i+1) * 6) (List.take (i * 6) cs++g++anys ((c' - (i+1)) * 6))++List.take (min (n - i) (n+1 - (i+1)) * 6) (List.take ((n - i) * 6) (List.drop (i * 6) cs))++List.drop ((i+1) * 6+min (n - i) (n+1 - (i+1)) * 6) (List.take (i * 6) cs++g++anys ((c' - (i+1)) * 6))
   = List.take (i * 6) cs++g++List.drop (i * 6) (List.take (n * 6) cs)++anys ((c' - (n+1)) * 6):=by
 have hA:(List.take (i * 6) cs++g).length=(i+1) * 6:=by rw [List.length_append,List.length_take];omega
 have hm:min (n - i) (n+1 - (i+1))=n - i:=by omega
 have hs:(c' - (i+1)) * 6=(n - i) * 6+(c' - (n+1)) * 6:=by omega
 rw [hm,List.take_left' hA,← List.drop_drop,List.drop_left' hA,hs,anys_add,List.drop_left' (anys_len _),List.drop_take,show n * 6 - i * 6=(n - i) * 6 by omega,List.take_take,Nat.min_self]
theorem place2 (cs g:List V) (i n c:Nat) (hg:g.length=6) (hi:i < n) (hcs:cs.length=c * 6) (hc:n+1≤c) :
  List.take (i * 6) (List.take ((i+1) * 6) cs++List.take (min (n+1 - i) (n+1 - (i+1)) * 6) (List.take ((n+1 - i) * 6) (List.drop (i * 6) cs))++List.drop ((i+1) * 6+min (n+1 - i) (n+1 - (i+1)) * 6) cs)++List.take (min 1 (n+1 - i) * 6) [g].flatten ++
    List.drop (i * 6+min 1 (n+1 - i) * 6) (List.take ((i+1) * 6) cs++List.take (min (n+1 - i) (n+1 - (i+1)) * 6) (List.take ((n+1 - i) * 6) (List.drop (i * 6) cs))++List.drop ((i+1) * 6+min (n+1 - i) (n+1 - (i+1)) * 6) cs)
   = List.take (i * 6) cs++g++List.drop (i * 6) (List.take (n * 6) cs)++List.drop ((n+1) * 6) cs:=by
 have hm:min (n+1 - i) (n+1 - (i+1))=n - i:=by omega
 have hm1:min 1 (n+1 - i)=1:=by omega
 have hA:(List.take ((i+1) * 6) cs).length=(i+1) * 6:=by rw [List.length_take];omega
 rw [hm,hm1,show [g].flatten=g by simp,List.take_of_length_le (l:=g) (by omega),List.append_assoc (List.take ((i+1) * 6) cs),List.take_append_of_le_length (by omega),List.take_take,show min (i * 6) ((i+1) * 6)=i * 6 by omega,show i * 6+1 * 6=(i+1) * 6 by omega,List.drop_left' hA,List.take_take,show min ((n - i) * 6) ((n+1 - i) * 6)=(n - i) * 6 by omega,show (i+1) * 6+(n - i) * 6=(n+1) * 6 by omega,List.drop_take,show n * 6 - i * 6=(n - i) * 6 by omega]
 simp only [List.append_assoc]
theorem del6 (A B g rest:List V) (i n:Nat) (hA:A.length=i * 6) (hg:g.length=6) (hB:B.length=(n - (i+1)) * 6) (_hi:i < n) :
  List.take (i * 6) (A++(g++(B++rest)))++List.take ((n - (i+1)) * 6) (List.drop ((i+1) * 6) (A++(g++(B++rest))))++List.drop (i * 6+(n - (i+1)) * 6) (A++(g++(B++rest)))=A++(B++((g++(B++rest)).drop ((n - (i+1)) * 6))):=by
 have e1:(i+1) * 6=(A++g).length:=by rw [List.length_append,hA,hg];omega
 rw [List.take_left' hA,e1,← List.append_assoc A g,List.drop_left' rfl,List.take_left' hB,List.append_assoc A g,← List.drop_drop,List.drop_left' hA,List.append_assoc]
theorem clr6 (A B R:List V) (m:Nat) (h:(A++B).length=m * 6):List.take (m * 6) (A++(B++R))++anys (1 * 6)++List.drop (m * 6+1 * 6) (A++(B++R))=A++(B++(anys (1 * 6)++R.drop (1 * 6))):=by
 rw [← List.append_assoc A B R,List.take_left' h,← List.drop_drop,List.drop_left' h]
 simp only [List.append_assoc]
end Go.Proofs.YtjdggbanifineaaGreat
set_option linter.unusedSimpArgs false
set_option maxRecDepth 100000
set_option linter.defProp false
namespace Go.Proofs.YtjdggbanifineaaGreat
open Go.VL Go.Ar Go.Proofs.YtjdggbanifineaaGreat Go.Proofs.YtjdggbanifineaaGreat.Arr
theorem overlapsIt_ext (S:St) (cs g:List V) (b o n c:Nat) (own:Option Value) (hb:getB S.boxes b=some cs) (hg:g.length=6):ExtV Tryz.prog S 220 [.list own 6 [g],.lit (.slice (some ⟨b,o,none⟩) n c)] (vbool false):=by
 intro w I xs hH hr
 match xs,hr with
 | [x,y],hr =>
  simp only [V.reps,V.rep,and_true] at hr
  obtain⟨⟨_,a,ca,rfl,_,hl⟩,rfl⟩:=hr
  obtain⟨b',o',rfl,hq⟩:=hl.resolve_left (by simp)
  match g,hg,hq with
  | g0::gr,_,hq =>
   simp only [V.lies] at hq
   have hq:=hq.1
   simp only [V.ats] at hq
   obtain⟨⟨x0,hc,hI,_⟩,_⟩:=hq
   obtain⟨arr,e,h1,_,_,h4⟩:=hH.bx _ (getB_mem hb)
   have hne:b' ≠ b:=fun h=>h4 o' (h▸hI)
   have hs:∃ t k,w.shape? b'=some (t,k+1):=by
    unfold World.cell? at hc
    unfold World.shape?
    split at hc
    ·rename_i c0 e0 f0 h0
     rw [h0]
     simp only [Option.isSome_none,Bool.false_eq_true,if_false] at hc
     have:=(Array.getElem?_eq_some_iff.1 hc).1
     exact⟨e0,c0.size - 1,by simp only [Option.some.injEq,Prod.mk.injEq,true_and];omega⟩
    ·cases hc
   obtain⟨t,k,hs⟩:=hs
   have hs2:w.shape? b=some (e.1,arr.size):=by unfold World.shape?; rw [h1]
   have hf:∀ o,w.frozen? ⟨b,o,none⟩=false:=fun o=>by unfold World.frozen?; rw [h1];simp
   refine⟨.bool false,w,?_,.inl rfl,by simp only [V.rep]⟩
   rw [run_callFunc_extern Tryz.func220 (by kernel_rfl) (by kernel_rfl) (by kernel_rfl) (e:=Extern.SlicesOverlaps.overlaps #[52,52] #[4]) (by kernel_rfl)]
   have:=run_overlaps_box (P:=Tryz.prog) w 52 4 65 (by kernel_rfl) 6 (fun w=>by rfl) ⟨b',o',none⟩ ⟨b,o,none⟩ 1 ca n c hne t e.1 k arr.size hs hs2 hf rfl
   simp only [List.length_cons,List.length_nil] at this ⊢
   rw [this]
   rfl
 | [],hr=>simp [V.reps] at hr
 | [_],hr=>simp [V.reps] at hr
 | _::_::_::_,hr=>simp [V.reps] at hr
def tbGM0:=(aI (aI (aI Ty.c220 Ty.c221) (aI Ty.t26 Ty.t28)) (aI (aI Ty.t3 Ty.t4) (aI Ty.t52 (aI Ty.t65 Ty.t9))))
theorem insItNil_ok (g:List V) (own:Option Value):Ok Tryz.prog 219 [nilS,vint 0,.list own 6 [g]] [] fun v bs rs=>rs=[]∧∃ b c,1≤c∧v=.lit (.slice (some ⟨b,0,none⟩) 1 c)∧bs=[(b,.c (g++anys ((c - 1) * 6)))]:=by
 refine Ok.of_ex Ty.mixed Tryz.func219 rfl (by simp [Tryz.ntmps219]) (by kernel_rfl) fun F w0 I0=>?_
 simp only [↓rA,rB,buildOk,nt_is,Int.reduceEq,Int.reduceLE,Int.reduceLT,Int.reduceToNat,Nat.reduceAdd,Nat.reduceEqDiff,Nat.reduceLT,Nat.reduceLeDiff,Nat.reduceMul,Nat.reduceSub,reduceCtorEq,tbGM0,Tryz.results219]
 simp only [↓rA,rB,buildOk,nt_is,Int.reduceEq,Int.reduceLE,Int.reduceLT,Int.reduceToNat,Nat.reduceAdd,Nat.reduceEqDiff,Nat.reduceLT,Nat.reduceLeDiff,Nat.reduceMul,Nat.reduceSub,reduceCtorEq,tbGM0,Tryz.results219,show ¬ ((1:Nat):Int)=0 by decide]
 refine Or2.r ?_
 simp only [↓rA,rB,buildOk,nt_is,Int.reduceEq,Int.reduceLE,Int.reduceLT,Int.reduceToNat,Nat.reduceAdd,Nat.reduceEqDiff,Nat.reduceLT,Nat.reduceLeDiff,Nat.reduceMul,Nat.reduceSub,reduceCtorEq,tbGM0,Tryz.results219]
 refine fun b c hb hc=>?_
 simp only [↓rA,rB,buildOk,nt_is,Int.reduceEq,Int.reduceLE,Int.reduceLT,Int.reduceToNat,Nat.reduceAdd,Nat.reduceEqDiff,Nat.reduceLT,Nat.reduceLeDiff,Nat.reduceMul,Nat.reduceSub,reduceCtorEq,tbGM0,Tryz.results219]
 exact⟨_,[_],[],Le.refl _,List.Sublist.refl _,List.nil_sublist _,rfl,b,c,hc,rfl,by simp⟩
def tbGM1:=(aI (aI (aI Ty.c220 Ty.c221) (aI Ty.t26 Ty.t28)) (aI (aI Ty.t3 Ty.t4) (aI Ty.t52 (aI Ty.t65 Ty.t9))))
theorem insItEnd_ok (cs:List V) (n c ba:Nat) (g:List V) (own:Option Value) (_hg:g.length=6) (hcs:cs.length=c * 6) (hn:n≤c) (hnb:n≤1000000):Ok Tryz.prog 219 [.lit (.slice (some ⟨ba,0,none⟩) n c),vint n,.list own 6 [g]] [(ba,.c cs)] fun v bs rs=>rs=[]∧∃ b c',n+1≤c'∧v=.lit (.slice (some ⟨b,0,none⟩) (n+1) c')∧bs=[(b,.c (cs.take (n * 6)++g++anys ((c' - (n+1)) * 6)))]:=by
 refine Ok.of_ex Ty.mixed Tryz.func219 rfl (by simp [Tryz.ntmps219]) (by kernel_rfl) fun F w0 I0=>?_
 simp only [↓rA,rB,buildOk,nt_is,Int.reduceEq,Int.reduceLE,Int.reduceLT,Int.reduceToNat,Nat.reduceAdd,Nat.reduceEqDiff,Nat.reduceLT,Nat.reduceLeDiff,Nat.reduceMul,Nat.reduceSub,reduceCtorEq,tbGM1,Tryz.results219]
 refine⟨hn,?_⟩
 simp only [↓rA,rB,buildOk,nt_is,Int.reduceEq,Int.reduceLE,Int.reduceLT,Int.reduceToNat,Nat.reduceAdd,Nat.reduceEqDiff,Nat.reduceLT,Nat.reduceLeDiff,Nat.reduceMul,Nat.reduceSub,reduceCtorEq,tbGM1,Tryz.results219,show ¬ ((1:Nat):Int)=0 by decide]
 refine Or2.r ?_
 simp only [↓rA,rB,buildOk,nt_is,Int.reduceEq,Int.reduceLE,Int.reduceLT,Int.reduceToNat,Nat.reduceAdd,Nat.reduceEqDiff,Nat.reduceLT,Nat.reduceLeDiff,Nat.reduceMul,Nat.reduceSub,reduceCtorEq,tbGM1,Tryz.results219]
 refine⟨⟨hcs,hn,by omega⟩,fun b c' hb hc=>?_⟩
 simp only [↓rA,rB,buildOk,nt_is,Int.reduceEq,Int.reduceLE,Int.reduceLT,Int.reduceToNat,Nat.reduceAdd,Nat.reduceEqDiff,Nat.reduceLT,Nat.reduceLeDiff,Nat.reduceMul,Nat.reduceSub,reduceCtorEq,tbGM1,Tryz.results219,remB]
 exact⟨_,[_],[],Le.refl _,List.Sublist.refl _,List.nil_sublist _,rfl,b,c',hc,rfl,by simp⟩
def tbGM2:=(aI (aI (aI Ty.c220 Ty.c221) (aI Ty.t26 Ty.t28)) (aI (aI Ty.t3 Ty.t4) (aI Ty.t52 (aI Ty.t65 Ty.t9))))
theorem insItMid_ok (cs:List V) (i n c ba:Nat) (g:List V) (own:Option Value) (hg:g.length=6) (hcs:cs.length=c * 6) (hi:i < n) (hn:n≤c) (hnb:n≤1000000):Ok Tryz.prog 219 [.lit (.slice (some ⟨ba,0,none⟩) n c),vint i,.list own 6 [g]] [(ba,.c cs)] fun v bs rs=>rs=[]∧∃ b c' rest,n+1≤c'∧v=.lit (.slice (some ⟨b,0,none⟩) (n+1) c')∧rest.length=(c' - (n+1)) * 6∧bs=[(b,.c (cs.take (i * 6)++g++(cs.take (n * 6)).drop (i * 6)++rest))]:=by
 have hne:¬ (i:Int)=(n:Int):=by omega
 have w1:IntKind.i64.wrap ((n:Int)+((1:Nat):Int))=((n+1:Nat):Int):=by rw [wrap_id (by omega) (by omega)];rfl
 have w2:IntKind.i64.wrap ((i:Int)+((1:Nat):Int))=((i+1:Nat):Int):=by rw [wrap_id (by omega) (by omega)];rfl
 have w3:IntKind.i64.wrap (((n+1:Nat):Int) - (i:Int))=((n+1 - i:Nat):Int):=by rw [wrap_id (by omega) (by omega)];omega
 refine Ok.of_ex Ty.mixed Tryz.func219 rfl (by simp [Tryz.ntmps219]) (by kernel_rfl) fun F w0 I0=>?_
 simp only [↓rA,rB,buildOk,nt_is,Int.reduceEq,Int.reduceLE,Int.reduceLT,Int.reduceToNat,Nat.reduceAdd,Nat.reduceEqDiff,Nat.reduceLT,Nat.reduceLeDiff,Nat.reduceMul,Nat.reduceSub,reduceCtorEq,tbGM2,Tryz.results219]
 refine⟨by omega,?_⟩
 simp only [↓rA,rB,buildOk,nt_is,Int.reduceEq,Int.reduceLE,Int.reduceLT,Int.reduceToNat,Nat.reduceAdd,Nat.reduceEqDiff,Nat.reduceLT,Nat.reduceLeDiff,Nat.reduceMul,Nat.reduceSub,reduceCtorEq,tbGM2,Tryz.results219,show ¬ ((1:Nat):Int)=0 by decide,hne,w1]
 refine⟨hn,?_⟩
 by_cases hgr:c < n+1
 ·have hgr':((c:Int) < ((n+1:Nat):Int)):=by omega
  have z1:¬ c=0:=by omega
  have z2:¬ c=i:=by omega
  have z3:i+(n+1 - i)=n+1:=by omega
  have z4:(0:Int) < ((n+1 - i:Nat):Int):=by omega
  have z5:i≤c:=by omega
  have z6:i * 6≤cs.length:=by omega
  have z7:c < n+1:=hgr
  have z8:(n+1) * 64≤140737488355328:=by omega
  simp only [↓rA,rB,buildOk,nt_is,Int.reduceEq,Int.reduceLE,Int.reduceLT,Int.reduceToNat,Nat.reduceAdd,Nat.reduceEqDiff,Nat.reduceLT,Nat.reduceLeDiff,Nat.reduceMul,Nat.reduceSub,reduceCtorEq,tbGM2,Tryz.results219,hgr',w1,w2,w3,z1,z2,z5]
  refine appZK_box ?_
  simp only [↓rA,rB,buildOk,nt_is,Int.reduceEq,Int.reduceLE,Int.reduceLT,Int.reduceToNat,Nat.reduceAdd,Nat.reduceEqDiff,Nat.reduceLT,Nat.reduceLeDiff,Nat.reduceMul,Nat.reduceSub,reduceCtorEq,tbGM2,Tryz.results219,z3,z4,z6,z7,z8,TypeDesc.int.injEq,exists_eq']
  refine fun b' c' hb hc'=>?_
  replace hb:=newb hb
  try simp only [Nb] at hb
  have y1:¬ c'=0:=by omega
  have y2:¬ c'=i:=by omega
  have y3:¬ c'=i+1:=by omega
  have y4:i≤n+1:=by omega
  have y5:i≤n:=by omega
  have y6:i+1≤n+1:=by omega
  simp only [↓rA,rB,buildOk,nt_is,Int.reduceEq,Int.reduceLE,Int.reduceLT,Int.reduceToNat,Nat.reduceAdd,Nat.reduceEqDiff,Nat.reduceLT,Nat.reduceLeDiff,Nat.reduceMul,Nat.reduceSub,reduceCtorEq,tbGM2,Tryz.results219,hb,z1,z2,z3,y1,y2,y3,y4,y5,y6,hn,hc',w2]
  have hl0:(List.take (i * 6) cs++anys ((c' - i) * 6)).length=c' * 6:=by rw [List.length_append,List.length_take,anys_len];omega
  refine⟨by rw [hl0];omega,by omega,?_⟩
  rw [grow1 cs g i n c' hg hi (by omega) hc']
  refine⟨?_,?_⟩
  ·rw [List.length_append,List.length_append,List.length_take,anys_len,hg];omega
  ·refine⟨_,[_],[],Le.refl _,List.Sublist.cons_cons _ (List.nil_sublist _),List.nil_sublist _,rfl,b',c',_,hc',rfl,anys_len _,?_⟩
   rw [grow2 cs g i n c' hg hi (by omega) hc']
 ·have hgr':¬ ((c:Int) < ((n+1:Nat):Int)):=by omega
  have z1:¬ c=0:=by omega
  have z2:¬ c=i:=by omega
  have z3:n+1≤c:=by omega
  have z4:¬ c=i+1:=by omega
  have z5:i≤n:=by omega
  simp only [↓rA,rB,buildOk,nt_is,Int.reduceEq,Int.reduceLE,Int.reduceLT,Int.reduceToNat,Nat.reduceAdd,Nat.reduceEqDiff,Nat.reduceLT,Nat.reduceLeDiff,Nat.reduceMul,Nat.reduceSub,reduceCtorEq,tbGM2,Tryz.results219,hgr',w1,w2,w3,z1,z2,z3,z4,z5]
  refine ExtF_of _ (overlapsIt_ext _ cs g ba _ _ _ own (by simp only [↓rA,rB,buildOk,nt_is,Int.reduceEq,Int.reduceLE,Int.reduceLT,Int.reduceToNat,Nat.reduceAdd,Nat.reduceEqDiff,Nat.reduceLT,Nat.reduceLeDiff,Nat.reduceMul,Nat.reduceSub,reduceCtorEq,tbGM2,Tryz.results219];try rfl) hg) ?_
  simp only [↓rA,rB,buildOk,nt_is,Int.reduceEq,Int.reduceLE,Int.reduceLT,Int.reduceToNat,Nat.reduceAdd,Nat.reduceEqDiff,Nat.reduceLT,Nat.reduceLeDiff,Nat.reduceMul,Nat.reduceSub,reduceCtorEq,tbGM2,Tryz.results219,w1,w2,w3,z1,z2,z3,z4,z5]
  refine⟨by omega,by omega,by omega,by omega,?_⟩
  have hm:min (n+1 - i) (n+1 - (i+1))=n - i:=by omega
  refine⟨?_,?_⟩
  ·rw [hm]
   simp only [List.length_append,List.length_take,List.length_drop]
   omega
  ·refine⟨_,[_],[],Le.refl _,List.Sublist.refl _,List.nil_sublist _,rfl,ba,c,cs.drop ((n+1) * 6),z3,rfl,by rw [List.length_drop,hcs];omega,?_⟩
   rw [place2 cs g i n c hg hi hcs z3]
theorem insIt_ok (cs:List V) (i n c ba:Nat) (g:List V) (own:Option Value) (hg:g.length=6) (hcs:cs.length=c * 6) (hi:i≤n) (hn:n≤c) (hnb:n≤1000000):Ok Tryz.prog 219 [.lit (.slice (some ⟨ba,0,none⟩) n c),vint i,.list own 6 [g]] [(ba,.c cs)] fun v bs rs=>rs=[]∧∃ b c' rest,n+1≤c'∧v=.lit (.slice (some ⟨b,0,none⟩) (n+1) c')∧rest.length=(c' - (n+1)) * 6∧bs=[(b,.c (cs.take (i * 6)++g++(cs.take (n * 6)).drop (i * 6)++rest))]:=by
 rcases Nat.lt_or_ge i n with h | h
 ·exact insItMid_ok cs i n c ba g own hg hcs h hn hnb
 ·obtain rfl:i=n:=by omega
  refine(insItEnd_ok cs i c ba g own hg hcs hn hnb).mono ?_
  rintro v bs rs ⟨rfl,b,c',h1,rfl,rfl⟩
  refine⟨rfl,b,c',_,h1,rfl,anys_len _,?_⟩
  rw [List.drop_eq_nil_of_le (by rw [List.length_take];omega),List.append_nil]
def tbGM3:=(aI (aI Ty.t26 (aI Ty.t28 Ty.t3)) (aI (aI Ty.t4 Ty.t52) (aI Ty.t65 Ty.t9)))
theorem delIt_ok (A B g rest:List V) (i n c b:Nat) (hA:A.length=i * 6) (hg:g.length=6) (hB:B.length=(n - (i+1)) * 6) (hi:i < n) (hn:n≤c) (hnb:n≤1000000) (hr:rest.length=(c - n) * 6):Ok Tryz.prog 216 [.lit (.slice (some ⟨b,0,none⟩) n c),vint i,vint ((i+1:Nat):Int)] [(b,.c (A++(g++(B++rest))))] fun v bs rs=>rs=[]∧∃ rest',v=.lit (.slice (some ⟨b,0,none⟩) (n - 1) c)∧rest'.length=(c - (n - 1)) * 6∧bs=[(b,.c (A++(B++rest')))]:=by
 have hlen:(A++(g++(B++rest))).length=c * 6:=by simp only [List.length_append,hA,hg,hB,hr];omega
 have hne:¬ (i:Int)=((i+1:Nat):Int):=by omega
 have q1:i≤i+1:=by omega
 have q2:i+1≤n:=by omega
 have q3:i≤c:=by omega
 have q4:i≤n:=by omega
 have q5:i+1≤c:=by omega
 refine Ok.of_ex Ty.mixed Tryz.func216 rfl (by simp [Tryz.ntmps216]) (by kernel_rfl) fun F w0 I0=>?_
 have z0:¬ c=0:=by omega
 have e1:i+(n - (i+1))=n - 1:=by omega
 have e2:n - 1≤c:=by omega
 have e3:n - 1≤n:=by omega
 have hd:=del6 A B g rest i n hA hg hB hi
 by_cases hc:c=i+1
 ·have hn1:n=i+1:=by omega
  subst hn1
  subst hc
  simp only [↓rA,rB,buildOk,nt_is,Int.reduceEq,Int.reduceLE,Int.reduceLT,Int.reduceToNat,Nat.reduceAdd,Nat.reduceEqDiff,Nat.reduceLT,Nat.reduceLeDiff,Nat.reduceMul,Nat.reduceSub,reduceCtorEq,tbGM3,Tryz.results216,hne,q1,q2,q3,q4,q5,hn]
  refine Or2.l ?_
  have e5:i+1 - 1=i:=by omega
  have e6:i+1 - i=1:=by omega
  have e7:¬ i+1=i:=by omega
  have e8:i≤i+1:=by omega
  have hB0:B=[]:=List.eq_nil_of_length_eq_zero (by omega)
  have hr0:rest=[]:=List.eq_nil_of_length_eq_zero (by omega)
  subst hB0 hr0
  simp only [List.nil_append,List.append_nil] at hlen hd ⊢
  simp only [Nat.sub_self,Nat.zero_mul,List.take_zero,List.append_nil,Nat.add_zero,List.drop_zero] at hd
  simp only [↓rA,rB,buildOk,nt_is,Int.reduceEq,Int.reduceLE,Int.reduceLT,Int.reduceToNat,Nat.reduceAdd,Nat.reduceEqDiff,Nat.reduceLT,Nat.reduceLeDiff,Nat.reduceMul,Nat.reduceSub,reduceCtorEq,tbGM3,Tryz.results216,hne,q1,q2,q3,q4,q5,hn,z0,e1,e2,e3,e5,Nat.sub_self,Nat.zero_mul,List.take_zero,List.append_nil,Nat.add_zero]
  refine⟨by rw [hlen];exact Nat.le_refl _,fun h=>absurd h (by omega),fun _=>?_⟩
  simp only [↓rA,rB,buildOk,nt_is,Int.reduceEq,Int.reduceLE,Int.reduceLT,Int.reduceToNat,Nat.reduceAdd,Nat.reduceEqDiff,Nat.reduceLT,Nat.reduceLeDiff,Nat.reduceMul,Nat.reduceSub,reduceCtorEq,tbGM3,Tryz.results216,hne,q1,q2,q3,q4,q5,hn,z0,e1,e2,e3,e5,e6,e7,e8,hd,Nat.sub_self,Nat.zero_mul,List.take_zero,List.append_nil,Nat.add_zero]
  have hk:=clr6 A [] g i (by rw [List.append_nil];exact hA)
  simp only [List.nil_append] at hk
  refine⟨by rw [hlen];omega,_,[_],[],Le.refl _,List.Sublist.refl _,List.nil_sublist _,rfl,anys (1 * 6)++g.drop (1 * 6),rfl,?_,?_⟩
  ·rw [List.length_append,anys_len,List.length_drop,hg]
  ·rw [← hk]
 ·simp only [↓rA,rB,buildOk,nt_is,Int.reduceEq,Int.reduceLE,Int.reduceLT,Int.reduceToNat,Nat.reduceAdd,Nat.reduceEqDiff,Nat.reduceLT,Nat.reduceLeDiff,Nat.reduceMul,Nat.reduceSub,reduceCtorEq,tbGM3,Tryz.results216,hne,q1,q2,q3,q4,q5,hn,hc]
  refine Or2.l ?_
  have z3:¬ c=n - 1:=by omega
  have e4:n - (n - 1)=1:=by omega
  simp only [↓rA,rB,buildOk,nt_is,Int.reduceEq,Int.reduceLE,Int.reduceLT,Int.reduceToNat,Nat.reduceAdd,Nat.reduceEqDiff,Nat.reduceLT,Nat.reduceLeDiff,Nat.reduceMul,Nat.reduceSub,reduceCtorEq,tbGM3,Tryz.results216,hne,q1,q2,q3,q4,q5,hn,z0,e1,e2,e3,hc]
  refine⟨by rw [hlen];omega,by rw [hlen];exact Nat.le_refl _,fun h=>absurd h (by omega),fun _=>?_⟩
  simp only [↓rA,rB,buildOk,nt_is,Int.reduceEq,Int.reduceLE,Int.reduceLT,Int.reduceToNat,Nat.reduceAdd,Nat.reduceEqDiff,Nat.reduceLT,Nat.reduceLeDiff,Nat.reduceMul,Nat.reduceSub,reduceCtorEq,tbGM3,Tryz.results216,hne,q1,q2,q3,q4,q5,hn,z0,z3,e1,e2,e3,e4,hc]
  rw [hd]
  have hAB:(A++B).length=(n - 1) * 6:=by rw [List.length_append,hA,hB];omega
  have hR:(List.drop ((n - (i+1)) * 6) (g++(B++rest))).length=(c - (n - 1)) * 6:=by simp only [List.length_drop,List.length_append,hg,hB,hr];omega
  generalize List.drop ((n - (i+1)) * 6) (g++(B++rest))=R at hR
  refine⟨by rw [← List.append_assoc,List.length_append,hAB,hR];omega,_,[_],[],Le.refl _,List.Sublist.refl _,List.nil_sublist _,rfl,anys (1 * 6)++R.drop (1 * 6),rfl,?_,?_⟩
  ·rw [List.length_append,anys_len,List.length_drop,hR];omega
  ·rw [clr6 A B R (n - 1) hAB]
end Go.Proofs.YtjdggbanifineaaGreat
namespace Go.Proofs
open Go.Shelf
def Tryz.sortI_ren:Go.Shelf.Ren:=⟨fun | 53=>105 | 64=>128 | 63=>127 | 78=>153 | 79=>154 | 70=>144 | 71=>145 | 72=>146 | 73=>147 | 74=>148 | 75=>149 | 59=>150 | 76=>151 | 77=>152 | 88=>163 | 89=>164 | 90=>165 | 91=>166 | 92=>167 | 68=>53 | 96=>172 | n=>n,fun | 22=>91 | 23=>3 | 3=>3 | 51=>113 | 0=>0 | 67=>192 | 69=>49 | 4=>4 | 61=>185 | 60=>184 | 44=>58 | 5=>5 | 9=>9 | 75=>197 | 79=>201 | 83=>209 | 84=>210 | n=>n,fun | n=>n⟩
theorem Tryz.sortI:Go.Proofs.SlLaysN.n53 Tryz.prog Tryz.sortI_ren:={
 mixed:=by kernel_rfl
 f53:=⟨Tryz.f105.name,by decide,Tryz.func105.trans (congrArg some (by kernel_rfl))⟩
 f59:=⟨Tryz.f150.name,by decide,Tryz.func150.trans (congrArg some (by kernel_rfl))⟩
 f63:=⟨Tryz.f127.name,by decide,Tryz.func127.trans (congrArg some (by kernel_rfl))⟩
 f64:=Tryz.func128.trans (congrArg some (by kernel_rfl))
 f68:=⟨Tryz.f53.name,by decide,Tryz.func53.trans (congrArg some (by kernel_rfl))⟩
 f70:=⟨Tryz.f144.name,by decide,Tryz.func144.trans (congrArg some (by kernel_rfl))⟩
 f71:=⟨Tryz.f145.name,by decide,Tryz.func145.trans (congrArg some (by kernel_rfl))⟩
 f72:=⟨Tryz.f146.name,by decide,Tryz.func146.trans (congrArg some (by kernel_rfl))⟩
 f73:=⟨Tryz.f147.name,by decide,Tryz.func147.trans (congrArg some (by kernel_rfl))⟩
 f74:=⟨Tryz.f148.name,by decide,Tryz.func148.trans (congrArg some (by kernel_rfl))⟩
 f75:=⟨Tryz.f149.name,by decide,Tryz.func149.trans (congrArg some (by kernel_rfl))⟩
 f76:=⟨Tryz.f151.name,by decide,Tryz.func151.trans (congrArg some (by kernel_rfl))⟩
 f77:=⟨Tryz.f152.name,by decide,Tryz.func152.trans (congrArg some (by kernel_rfl))⟩
 f78:=Tryz.func153.trans (congrArg some (by kernel_rfl))
 f79:=Tryz.func154.trans (congrArg some (by kernel_rfl))
 f88:=⟨Tryz.f163.name,by decide,Tryz.func163.trans (congrArg some (by kernel_rfl))⟩
 f89:=Tryz.func164.trans (congrArg some (by kernel_rfl))
 f90:=Tryz.func165.trans (congrArg some (by kernel_rfl))
 f91:=⟨Tryz.f166.name,by decide,Tryz.func166.trans (congrArg some (by kernel_rfl))⟩
 f92:=⟨Tryz.f167.name,by decide,Tryz.func167.trans (congrArg some (by kernel_rfl))⟩
 f96:=⟨Tryz.f172.name,by decide,Tryz.func172.trans (congrArg some (by kernel_rfl))⟩
 t0:=Tryz.underlying0
 a0:=Tryz.isAgg0
 z0:=Tryz.sizeOf0
 v0:=Tryz.zeroValue0
 t3:=Tryz.underlying3
 a3:=Tryz.isAgg3
 z3:=Tryz.sizeOf3
 v3:=Tryz.zeroValue3
 t4:=Tryz.underlying4
 a4:=Tryz.isAgg4
 z4:=Tryz.sizeOf4
 v4:=Tryz.zeroValue4
 t5:=Tryz.underlying5
 a5:=Tryz.isAgg5
 z5:=Tryz.sizeOf5
 v5:=Tryz.zeroValue5
 t9:=Tryz.underlying9
 a9:=Tryz.isAgg9
 z9:=Tryz.sizeOf9
 v9:=Tryz.zeroValue9
 t22:=Tryz.underlying91
 a22:=Tryz.isAgg91
 z22:=Tryz.sizeOf91
 v22:=Tryz.zeroValue91
 t23:=Tryz.underlying3
 a23:=Tryz.isAgg3
 z23:=Tryz.sizeOf3
 v23:=Tryz.zeroValue3
 t44:=Tryz.underlying58
 a44:=Tryz.isAgg58
 z44:=Tryz.sizeOf58
 v44:=Tryz.zeroValue58
 t51:=Tryz.underlying113
 a51:=Tryz.isAgg113
 z51:=Tryz.sizeOf113
 v51:=Tryz.zeroValue113
 t60:=Tryz.underlying184
 a60:=Tryz.isAgg184
 z60:=Tryz.sizeOf184
 v60:=Tryz.zeroValue184
 t61:=Tryz.underlying185
 a61:=Tryz.isAgg185
 z61:=Tryz.sizeOf185
 v61:=Tryz.zeroValue185
 t67:=Tryz.underlying192
 a67:=Tryz.isAgg192
 z67:=Tryz.sizeOf192
 v67:=Tryz.zeroValue192
 t69:=Tryz.underlying49
 a69:=Tryz.isAgg49
 z69:=Tryz.sizeOf49
 v69:=Tryz.zeroValue49
 t75:=Tryz.underlying197
 a75:=Tryz.isAgg197
 z75:=Tryz.sizeOf197
 v75:=Tryz.zeroValue197
 t79:=Tryz.underlying201
 a79:=Tryz.isAgg201
 z79:=Tryz.sizeOf201
 v79:=Tryz.zeroValue201
 t83:=Tryz.underlying209
 a83:=Tryz.isAgg209
 z83:=Tryz.sizeOf209
 v83:=Tryz.zeroValue209
 t84:=Tryz.underlying210
 a84:=Tryz.isAgg210
 z84:=Tryz.sizeOf210
 v84:=Tryz.zeroValue210 }
end Go.Proofs
set_option linter.unusedSimpArgs false
set_option maxRecDepth 100000
namespace Go.VL
open Go.RowKit Go.Sort Go.Shelf Go.Lib Go.Proofs
theorem vint_rep {w:World} {I:Cells}:∀ {zs:List Int} {rest:List V} {xs:List Value},V.reps w I ((zs.map fun z=>V.lit (.int .i64 z))++rest) xs→xs.take zs.length=zs.map (.int .i64)∧V.reps w I rest (xs.drop zs.length)
 | [],_,_,h=>⟨rfl,h⟩
 | z::zs,rest,[],h=>by simp [V.reps] at h
 | z::zs,rest,x::xs,h=>by
  simp only [List.map_cons,List.cons_append,V.reps,V.rep] at h
  obtain⟨h1,h2⟩:=vint_rep h.2
  exact⟨by simp [h.1,h1],by simpa using h2⟩
theorem lits_rep {w:World} {I:Cells}:∀ (zs:List Int),V.reps w I (zs.map fun z=>V.lit (.int .i64 z)) (zs.map (.int .i64))
 | []=>by simp [V.reps]
 | z::zs=>by simp only [List.map_cons,V.reps,V.rep,true_and];exact lits_rep zs
theorem putCells_ints (d:Array Int) (arr:Array Value) (h:d.size≤arr.size):(putCells (.int .i64) 0 d arr).toList=d.toList.map (.int .i64)++arr.toList.drop d.size:=by
 refine List.ext_getElem (by simp [putCells];omega) fun t h1 h2=>?_
 have ht:t < arr.size:=by simpa [putCells] using h1
 simp only [putCells,Array.getElem_toList,Array.getElem_mapIdx,Nat.zero_add,Nat.zero_le,true_and,Nat.sub_zero]
 by_cases hF:t < d.size
 ·rw [if_pos hF,List.getElem_append_left (by simpa using hF),getElem!_pos d t hF]
  simp
 ·rw [if_neg hF,List.getElem_append_right (by simpa using hF)]
  simp only [List.getElem_drop,Array.getElem_toList,List.length_map,Array.length_toList]
  congr 1;omega
theorem row_heap {w:World} {b:Nat} {arr:Array Value} {te:TypeId} (n:Nat) (d:Array Int) (os:Array Obj) (h:w.heap[b]? = some (.cells arr te (0,0))) :
  (grow (putRow (Value.int .i64) (Go.Sort.ahead w n) b 0 d) os).heap[b]? = some (.cells (putCells (.int .i64) 0 d arr) te (0,0)):=by
 have hb:=(Array.getElem?_eq_some_iff.1 h).1
 unfold grow putRow mapBlock Go.Sort.ahead
 simp only []
 rw [Array.getElem?_append_left (by simpa using hb),Array.getElem?_modify,if_pos rfl]
 rw [h]
 rfl
theorem row_other {w:World} {b b':Nat} (n:Nat) (d:Array Int) (os:Array Obj) (h:b' ≠ b) (hlt:b' < w.heap.size):(grow (putRow (Value.int .i64) (Go.Sort.ahead w n) b 0 d) os).heap[b']? = w.heap[b']? := by
 unfold grow putRow mapBlock Go.Sort.ahead
 simp only []
 rw [Array.getElem?_append_left (by simpa using hlt),Array.getElem?_modify,if_neg (fun e=>h e.symm)]
theorem row_keeps {F:Nat→Prop} {w:World} {I:Cells} {b:Nat} (n:Nat) (d:Array Int) (os:Array Obj) (hF:∀ b',F b'→b' ≠ b∧b' < w.heap.size) (hI:∀ o,¬ I b o) (hin:∀ b' o,I b' o→b' < w.heap.size) (hd:∀ x,w.heap[b]? ≠ some (.deferred x)):Keeps F w I (grow (putRow (Value.int .i64) (Go.Sort.ahead w n) b 0 d) os) I :=
 ⟨rfl,rfl,rfl,by unfold grow putRow mapBlock Go.Sort.ahead;simp,fun b' hb'=>row_other n d os (hF b' hb').1 (hF b' hb').2,⟨fun b' o hi=>⟨hi,by
  have hne:b' ≠ b:=fun e=>hI o (e▸hi)
  simp only [World.cell?, row_other n d os hne (hin b' o hi)]⟩,fun b' x hx=>by
  have hne:b' ≠ b:=fun e=>hd x (e▸hx)
  rw [row_other n d os hne (Array.getElem?_eq_some_iff.1 hx).1];exact hx⟩,fun _ _ _ h=>h,by
  unfold grow putRow mapBlock Go.Sort.ahead
  simp⟩
theorem Ok.sortAll {P:Program} {ρ:Ren} (L:SlLaysN.n53 P ρ) (zs:List Int) (rest:List V) (b cap:Nat) (hsz:zs.length < 4611686018427387904) :
  Ok P (ρ.f 53) [.lit (.slice (some ⟨b,0,none⟩) zs.length cap)] [(b,.c ((zs.map fun z=>.lit (.int .i64 z))++rest))] fun v bs rs =>
   v=.tup []∧bs=[(b,.c (((zs.mergeSort fun x y=>decide (x≤y)).map fun z=>.lit (.int .i64 z))++rest))]∧rs=[]:=by
 intro w I xs hr hH
 obtain rfl:xs=[.slice (some ⟨b,0,none⟩) zs.length cap]:=by
  match xs,hr with
  | [x],hr=>simp only [V.reps,V.rep,and_true] at hr;rw [hr]
  | [],hr=>simp [V.reps] at hr
  | _::_::_,hr=>simp [V.reps] at hr
 obtain⟨arr,te,q1,q2,q3,q4⟩:=hH.bx _ (List.mem_singleton.2 rfl)
 have hblk:b < w.heap.size:=(Array.getElem?_eq_some_iff.1 q1).1
 obtain⟨v1,v2⟩:=vint_rep q3
 have hal:zs.length≤arr.size:=by have:=reps_length q3;simp at this;omega
 have hv:∀ j (h:j < zs.length),arr.toList[j]? = some (.int .i64 zs[j]):=fun j h=>by
  have:(arr.toList.take zs.length)[j]? = some (.int .i64 zs[j]):=by rw [v1];simp [h]
  rwa [List.getElem?_take_of_lt h] at this
 have hHo:Holds (Value.int .i64) w b 0 zs.toArray:=by
  intro j hj
  have hj':j < zs.length:=by simpa using hj
  have h:=hv j hj'
  rw [getElem!_pos _ j hj]
  simp only [Array.getElem?_toList,List.getElem_toArray] at h ⊢
  constructor
  ·simp [World.cell?, q1,h]
  ·simp [World.frozen?, q1]
 refine(AnyG.slices_Sort_int L b 0 cap zs w hHo hblk hsz).mono fun e w' ⟨he,n,os,hw⟩=>?_
 subst hw
 generalize hms:(zs.mergeSort fun x y=>decide (x≤y))=ms
 have hml:ms.length=zs.length:=by rw [← hms,List.length_mergeSort]
 have hK:=row_keeps (w:=w) (b:=b) (I:=I) n ms.toArray os (F:=fun b'=>b' < w.heap.size∧b' ∉ ([(b,B.c ((zs.map fun z=>V.lit (.int .i64 z))++rest))]:List (Nat × B)).map (·.1)) (fun b' hb'=>⟨by simpa using hb'.2,hb'.1⟩) q4 hH.inn (fun x e=>by rw [q1] at e;cases e)
 have harr:=putCells_ints ms.toArray arr (by simpa [hml] using hal)
 refine⟨.tuple #[],.tup [],[(b,.c ((ms.map fun z=>.lit (.int .i64 z))++rest))],[],I,he,by simp only [V.rep];exact⟨#[],rfl,by simp [V.reps]⟩,hK,⟨fun p hp'=>?_,by simp,by simp [blks],fun b' o hi=>Nat.lt_of_lt_of_le (hH.inn b' o hi) hK.size,hH.glob.mono hK.stays⟩,fun b' hb' h=>h.2 (by simpa [blks] using hb'),rfl,rfl,rfl⟩
 rw [List.mem_singleton.1 hp']
 refine⟨_,te,row_heap n ms.toArray os q1,fun x hx=>?_,?_,q4⟩
 ·rw [harr] at hx
  rcases List.mem_append.1 hx with hx | hx
  ·obtain⟨z,_,rfl⟩:=List.mem_map.1 hx
   simp [one]
  ·exact q2 x (List.mem_of_mem_drop hx)
 ·rw [harr]
  refine reps_append (lits_rep ms) (V.reps_mono hK.stays _ _ ?_)
  simpa [hml] using v2
theorem EX_whileQ {C:Ctx} {c:Code} {k:List It} {S:St} {Q:Exit→St→Prop} {α:Type} (hm:C.P.follows .mixedOrders=true) (hk:okCode C.N C.M c=true) (μ:α→Nat) (T:α→St→Prop) (x:α) (h0:LoseP (T x) S)
  (round:∀ x S,T x S→EX C (.code c::.stop (fun S'=>∃ y,μ y < μ x∧LoseP (T y) S')::k) S Q):AWP C (.loop c) S (contQ C k Q):=by
 have lp:∀ {A B:St→Prop} {S},(∀ S,A S→B S)→LoseP A S→LoseP B S:=fun hab ⟨bs,rs,bs',rs',h1,h2,h3,h4,h⟩=>⟨bs,rs,bs',rs',h1,h2,h3,h4,hab _ h⟩
 refine AWP.loopP (fun m S=>∃ x,μ x=m∧T x S) (μ x) (lp (fun S h=>⟨x,rfl,h⟩) h0) fun m S ⟨x,hx,hT⟩=>?_
 subst hx
 refine cwp_spec hm c S _ hk (cwp_mono (fun e S' h'=>?_) (show cwp C c S _ from round x S hT))
 cases e <;> first | exact h' | (obtain⟨y,hy,h'⟩:=h';exact⟨μ y,hy,lp (fun S h=>⟨y,rfl,h⟩) h'⟩)
end Go.VL
set_option linter.unusedSimpArgs false
set_option maxRecDepth 100000
set_option linter.defProp false
namespace Go.Proofs.YtjdggbanifineaaGreat
open Go.VL Go.Ar Go.Proofs.YtjdggbanifineaaGreat Go.Proofs.YtjdggbanifineaaGreat.Arr
abbrev fnG (g:FuncId):V:=.lit (.func (.func g) #[] #[])
end Go.Proofs.YtjdggbanifineaaGreat
set_option linter.unusedSimpArgs false
set_option maxRecDepth 100000
set_option linter.defProp false
namespace Go.Proofs.YtjdggbanifineaaGreat
open Go.VL Go.Ar Go.Proofs.YtjdggbanifineaaGreat Go.Proofs.YtjdggbanifineaaGreat.Arr
end Go.Proofs.YtjdggbanifineaaGreat
set_option linter.unusedSimpArgs false
set_option maxRecDepth 100000
set_option linter.defProp false
namespace Go.Proofs.YtjdggbanifineaaGreat
open Go.VL Go.Ar Go.Proofs.YtjdggbanifineaaGreat Go.Proofs.YtjdggbanifineaaGreat.Arr
def Blk {α:Type} (cf:α→α→Int) (n:Nat) (L:List (List α)):Prop:=∀ s ∈ L,s.length=n∧Srt cf s
theorem Blk.len {α:Type} {cf:α→α→Int} {n:Nat}:∀ {L:List (List α)},Blk cf n L→L.flatten.length=L.length * n
 | [],_=>by simp
 | s::L,h=>by
  have h1:=(h s List.mem_cons_self).1
  have h2:=Blk.len (L:=L) fun t ht=>h t (List.mem_cons_of_mem _ ht)
  rw [List.flatten_cons,List.length_append,h1,h2,List.length_cons,Nat.succ_mul];omega
end Go.Proofs.YtjdggbanifineaaGreat
set_option linter.unusedSimpArgs false
set_option maxRecDepth 100000
set_option linter.defProp false
namespace Go.Ar
open Go.VL Go.Sg
end Go.Ar
namespace Go.Proofs.YtjdggbanifineaaGreat
open Go.VL Go.Ar Go.Sg Go.Proofs.YtjdggbanifineaaGreat Go.Proofs.YtjdggbanifineaaGreat.Arr
end Go.Proofs.YtjdggbanifineaaGreat
set_option maxRecDepth 100000
namespace Go.Lo
open Go.VL Go.Ar
section
variable {α β δ γ:Type} [DecidableEq α]
abbrev entsK (kV:α→Value) (cV:β→V) (g:List (Nat × α × β)):List Ent:=g.map fun p=>(p.1,kV p.2.1,cV p.2.2)
def getK (g:List (Nat × α × β)) (a:α):Option (Nat × α × β):=g.find? fun p=>decide (a=p.2.1)
def modK (a:α) (v:β):List (Nat × α × β)→List (Nat × α × β)
 | []=>[]
 | p::g=>if a=p.2.1 then (p.1,p.2.1,v)::g else p::modK a v g
variable {kV:α→Value} {cV:β→V}
theorem findE_entsK (hk:∀ a b,keq (kV a) (kV b)=decide (a=b)) (a:α):∀ g:List (Nat × α × β),findE (entsK kV cV g) (kV a)=(getK g a).map fun p=>(p.1,kV p.2.1,cV p.2.2)
 | []=>rfl
 | p::g=>by
  have ih:=findE_entsK hk a g
  simp only [findE,getK] at ih ⊢
  simp only [entsK,List.map_cons,List.find?_cons,hk]
  cases decide (a=p.2.1)
  ·exact ih
  ·rfl
theorem findM_entsK (hk:∀ a b,keq (kV a) (kV b)=decide (a=b)) (a:α) (g:List (Nat × α × β)):findM (entsK kV cV g) (kV a)=(getK g a).map fun p=>cV p.2.2:=by
 have:=findE_entsK (cV:=cV) hk a g
 unfold findE at this
 unfold findM
 rw [this,Option.map_map]
 rfl
theorem modM_entsK (hk:∀ a b,keq (kV a) (kV b)=decide (a=b)) (a:α) (v:β):∀ g:List (Nat × α × β),modM (kV a) (cV v) (entsK kV cV g)=entsK kV cV (modK a v g)
 | []=>rfl
 | p::g=>by
  have ih:=modM_entsK hk a v g
  simp only [entsK,List.map_cons,modM,modK,hk,decide_eq_true_eq] at ih ⊢
  by_cases hs:a=p.2.1
  ·rw [if_pos hs,if_pos hs];rfl
  ·rw [if_neg hs,if_neg hs,ih];rfl
theorem getK_some {g:List (Nat × α × β)} {a:α} {p:Nat × α × β} (h:getK g a=some p):p ∈ g∧a=p.2.1:=⟨List.mem_of_find?_eq_some h,by simpa using List.find?_some h⟩
theorem getK_none {g:List (Nat × α × β)} {a:α} (h:getK g a=none):∀ p ∈ g,¬ a=p.2.1:=fun p hp=>by
 have:=List.find?_eq_none.1 h p hp
 simpa using this
theorem getK_modK (a:α) (v:β) (b:α):∀ g:List (Nat × α × β),getK (modK a v g) b=(getK g b).map fun p=>if p.2.1=a then (p.1,p.2.1,v) else p
 | []=>rfl
 | p::g=>by
  have ih:=getK_modK a v b g
  unfold getK at ih ⊢
  unfold modK
  by_cases hs:a=p.2.1
  ·rw [if_pos hs]
   simp only [List.find?_cons]
   by_cases hb:b=p.2.1
   ·simp [hb,hs]
   ·simp only [hb,decide_false]
    cases hf:g.find? fun p=>decide (b=p.2.1) with
    | none=>rfl
    | some q =>
     have hq:b=q.2.1:=by simpa using List.find?_some hf
     have:¬ q.2.1=a:=fun e=>hb (by rw [hq,e,hs])
     simp [this]
  ·rw [if_neg hs]
   simp only [List.find?_cons]
   by_cases hb:b=p.2.1
   ·simp [hb,Ne.symm hs]
   ·simp only [hb,decide_false]
    exact ih
theorem getK_append (g:List (Nat × α × β)) (p:Nat × α × β) (b:α):getK (g++[p]) b=match getK g b with | some q=>some q | none=>if b=p.2.1 then some p else none:=by
 unfold getK
 rw [List.find?_append]
 cases g.find? fun p=>decide (b=p.2.1) with
 | none=>by_cases h:b=p.2.1 <;> simp [h]
 | some q=>simp
theorem modK_len (a:α) (v:β):∀ g:List (Nat × α × β),(modK a v g).length=g.length
 | []=>rfl
 | p::g=>by
  have:=modK_len a v g
  unfold modK
  split <;> simp [this]
theorem modK_mem {a:α} {v:β}:∀ {g:List (Nat × α × β)} {q:Nat × α × β},q ∈ modK a v g→∃ p ∈ g,q.1=p.1∧q.2.1=p.2.1∧(q=p∨q.2.2=v)
 | [],_,h=>by cases h
 | p::g,q,h=>by
  unfold modK at h
  split at h
  ·rcases List.mem_cons.1 h with rfl | h
   ·exact⟨p,List.mem_cons_self,rfl,rfl,.inr rfl⟩
   ·exact⟨q,List.mem_cons_of_mem _ h,rfl,rfl,.inl rfl⟩
  ·rcases List.mem_cons.1 h with rfl | h
   ·exact⟨_,List.mem_cons_self,rfl,rfl,.inl rfl⟩
   ·obtain⟨p',hp',e⟩:=modK_mem h
    exact⟨p',List.mem_cons_of_mem _ hp',e⟩
abbrev ApartK (g:List (Nat × α × β)):Prop:=g.Pairwise fun p q=>p.1 < q.1∧¬ p.2.1=q.2.1
theorem modK_apart {a:α} {v:β}:∀ {g:List (Nat × α × β)},ApartK g→ApartK (modK a v g)
 | [],h=>h
 | p::g,h=>by
  have hc:=List.pairwise_cons.1 h
  unfold modK
  split
  ·exact List.pairwise_cons.2 ⟨fun q hq=>hc.1 q hq,hc.2⟩
  ·refine List.pairwise_cons.2 ⟨fun q hq=>?_,modK_apart hc.2⟩
   obtain⟨p',hp',e1,e2,_⟩:=modK_mem hq
   have:=hc.1 p' hp'
   exact⟨by omega,fun e=>this.2 (e.trans e2)⟩
structure GoodK (pr:β→δ) (f:α→Option δ) (g:List (Nat × α × β)) (cl:Nat):Prop where
 lt:∀ p ∈ g,p.1 < cl
 apart:ApartK g
 val:∀ a,(getK g a).map (fun p=>pr p.2.2)=f a
def updF (f:α→Option δ) (a:α) (v:δ):α→Option δ:=fun b=>if b=a then some v else f b
variable {pr:β→δ} {f:α→Option δ}
theorem GoodK.nil:GoodK (α:=α) pr (fun _=>none) [] 0:=⟨by simp,List.Pairwise.nil,fun _=>rfl⟩
theorem GoodK.new {g:List (Nat × α × β)} {cl:Nat} (h:GoodK pr f g cl) {a:α} (hn:getK g a=none) (v:β):GoodK pr (updF f a (pr v)) (g++[(cl,a,v)]) (cl+1) where
 lt p hp:=by
  rcases List.mem_append.1 hp with hp | hp
  ·exact Nat.lt_succ_of_lt (h.lt p hp)
  ·rw [List.mem_singleton] at hp;subst hp;exact Nat.lt_succ_self _
 apart:=by
  refine List.pairwise_append.2 ⟨h.apart,by simp,fun p hp q hq=>?_⟩
  rw [List.mem_singleton] at hq;subst hq
  exact⟨h.lt p hp,fun e=>getK_none hn p hp e.symm⟩
 val b:=by
  rw [getK_append]
  unfold updF
  have hv:=h.val b
  by_cases e:b=a
  ·subst e;rw [hn];simp
  ·rw [if_neg e]
   cases hb:getK g b with
   | none=>rw [hb] at hv;simp [e,← hv]
   | some q=>rw [hb] at hv;simpa [e] using hv
theorem GoodK.old {g:List (Nat × α × β)} {cl:Nat} (h:GoodK pr f g cl) {a:α} {p:Nat × α × β} (hn:getK g a=some p) (v:β):GoodK pr (updF f a (pr v)) (modK a v g) cl where
 lt q hq:=by
  obtain⟨p',hp',e1,_⟩:=modK_mem hq
  rw [e1];exact h.lt p' hp'
 apart:=modK_apart h.apart
 val b:=by
  rw [getK_modK]
  unfold updF
  have hv:=h.val b
  by_cases e:b=a
  ·subst e
   rw [hn,if_pos rfl]
   simp [(getK_some hn).2]
  ·rw [if_neg e,← hv]
   cases hb:getK g b with
   | none=>rfl
   | some q =>
    have:¬ q.2.1=a:=fun e'=>e ((getK_some hb).2.trans e')
    simp [this]
def leftK (g:List (Nat × α × β)) (seen:List Nat):List (Nat × α × β):=g.filter fun p=>!seen.contains p.1
omit [DecidableEq α] in
theorem leftE_entsK (g:List (Nat × α × β)) (seen:List Nat):leftE (entsK kV cV g) seen=entsK kV cV (leftK g seen):=by
 simp only [leftE,entsK,leftK,List.filter_map]
 rfl
omit [DecidableEq α] in
theorem leftK_step {seen:List Nat} {p:Nat × α × β}:∀ {g:List (Nat × α × β)},ApartK g→p ∈ leftK g seen→(leftK g seen).Perm (p::leftK g (seen++[p.1]))
 | [],_,h=>by cases h
 | q::g,hp,h=>by
  have hc:=List.pairwise_cons.1 hp
  have ih:=leftK_step (seen:=seen) (p:=p) hc.2
  unfold leftK at h ih ⊢
  rw [List.filter_cons] at h ⊢
  cases hs:seen.contains q.1
  ·simp only [hs,Bool.not_false,if_true] at h ⊢
   rcases List.mem_cons.1 h with rfl | h
   ·have e:(seen++[p.1]).contains p.1=true:=by simp
    rw [List.filter_cons]
    simp only [e,Bool.not_true,Bool.false_eq_true,if_false]
    refine List.Perm.cons _ ?_
    rw [show g.filter (fun q=>!(seen++[p.1]).contains q.1)=g.filter (fun q=>!seen.contains q.1) from List.filter_congr fun q hq=>by
     have:=(hc.1 q hq).1
     simp [show ¬ q.1=p.1 by omega]]
   ·have hqp:q.1 < p.1:=(hc.1 p (List.mem_filter.1 h).1).1
    have hs':¬ q.1 ∈ seen:=by simpa using hs
    have e:(seen++[p.1]).contains q.1=false:=by simp [hs',show ¬ q.1=p.1 by omega]
    rw [List.filter_cons]
    simp only [e,Bool.not_false,if_true]
    exact(List.Perm.cons q (ih h)).trans (List.Perm.swap p q _)
  ·simp only [hs,Bool.not_true,Bool.false_eq_true,if_false] at h ⊢
   have hs':q.1 ∈ seen:=by simpa using hs
   have e:(seen++[p.1]).contains q.1=true:=by simp [hs']
   rw [List.filter_cons]
   simp only [e,Bool.not_true,Bool.false_eq_true,if_false]
   exact ih h
omit [DecidableEq α] in
theorem leftK_less {g:List (Nat × α × β)} {seen:List Nat} {p:Nat × α × β} (hg:ApartK g) (hp:p ∈ leftK g seen):(leftK g (seen++[p.1])).length < (leftK g seen).length:=by
 have:=(leftK_step hg hp).length_eq
 rw [List.length_cons] at this
 omega
def GotK (h:α × β→Option γ) (g:List (Nat × α × β)) (seen:List Nat) (acc:List γ):Prop:=(acc++(leftK g seen).filterMap fun p=>h p.2).Perm (g.filterMap fun p=>h p.2)
variable {h:α × β→Option γ}
omit [DecidableEq α] in
theorem GotK.start (g:List (Nat × α × β)):GotK h g [] []:=by
 have:leftK g []=g:=List.filter_eq_self.2 (by simp)
 unfold GotK
 rw [this]
 exact List.Perm.refl _
omit [DecidableEq α] in
theorem GotK.step {g:List (Nat × α × β)} {seen:List Nat} {acc:List γ} {p:Nat × α × β} (hh:GotK h g seen acc) (hg:ApartK g) (hp:p ∈ leftK g seen):GotK h g (seen++[p.1]) (acc++(h p.2).toList):=by
 unfold GotK at hh ⊢
 refine List.Perm.trans ?_ hh
 have hs:=(leftK_step hg hp).filterMap fun p=>h p.2
 rw [List.filterMap_cons] at hs
 rw [List.append_assoc]
 refine List.Perm.append_left acc ?_
 cases e:h p.2 with
 | none=>rw [e] at hs;simpa using hs.symm
 | some r=>rw [e] at hs;simpa using hs.symm
omit [DecidableEq α] in
theorem GotK.len {g:List (Nat × α × β)} {seen:List Nat} {acc:List γ} (hh:GotK h g seen acc):acc.length≤g.length:=by
 have:=hh.length_eq
 have h2:=List.length_filterMap_le (fun p:Nat × α × β=>h p.2) g
 rw [List.length_append] at this
 omega
omit [DecidableEq α] in
theorem GotK.done {g:List (Nat × α × β)} {seen:List Nat} {acc:List γ} (hh:GotK h g seen acc) (hl:leftK g seen=[]):acc.Perm (g.filterMap fun p=>h p.2):=by
 unfold GotK at hh
 rw [hl] at hh
 simpa using hh
end
end Go.Lo
set_option linter.unusedSimpArgs false
set_option maxRecDepth 100000
set_option linter.defProp false
namespace Go.Ar
open Go.VL Go.Sg Go.Lo
abbrev cBk (p:Int × Int):List V:=[vint p.1,vint p.2]
abbrev vBks (l:List (Int × Int)):V:=.list none 2 (l.map cBk)
abbrev kI (i:Int):Value:=.int .i64 i
theorem keq_I (a b:Int):keq (kI a) (kI b)=decide (a=b):=by
 simp only [keq,Value.cells,veqL,veq,Bool.and_true,decide_true,Bool.true_and]
def cntS (f:Int→Option Int) (p:Int × Int):Int→Option Int:=updF f p.1 (addW.add ((f p.1).getD 0) p.2)
def cntF (l:List (Int × Int)):Int→Option Int:=l.foldl cntS fun _=>none
theorem cntF_take (l:List (Int × Int)) (i:Nat) (h:i < l.length):cntF (l.take (i+1))=cntS (cntF (l.take i)) l[i]:=by
 unfold cntF
 rw [List.take_succ_eq_append_getElem h,List.foldl_append];rfl
theorem ltI (a b:Int):cmpI a b < 0↔a < b:=by unfold cmpI;split <;> (try split) <;> omega
def ordI:Sg.Ord Int:=ordOf cmpI pre_cmpI fun h=>cmpI_eq0.1 h
theorem cntF_get (l:List (Int × Int)) (hl:∀ p ∈ l,inW p.2) (i:Int):(cntF l i).getD 0=Sg.get ordI addW (puts ordI addW [] l) i:=by
 have main:∀ (m l:List (Int × Int)) (f:Int→Option Int),Canon ordI addW l→(∀ p ∈ m,inW p.2)→(∀ i,(f i).getD 0=Sg.get ordI addW l i)→(m.foldl cntS f i).getD 0=Sg.get ordI addW (puts ordI addW l m) i:=by
  intro m
  induction m with
  | nil=>intro l f _ _ h;exact h i
  | cons p m ih =>
   intro l f hc hm h
   have hp:=hm p List.mem_cons_self
   refine ih (put ordI addW p.1 p.2 l) (cntS f p) (hc.put hp) (fun q hq=>hm q (List.mem_cons_of_mem _ hq)) fun j=>?_
   rw [get_put hp j hc]
   unfold cntS updF
   by_cases e:j=p.1
   ·rw [if_pos e,if_pos e,← h p.1];rfl
   ·rw [if_neg e,if_neg e];exact h j
 exact main l [] (fun _=>none) Canon.nil hl fun _=>rfl
end Go.Ar
namespace Go.Proofs.YtjdggbanifineaaGreat
open Go.VL Go.Ar Go.Sg Go.Lo Go.Proofs.YtjdggbanifineaaGreat Go.Proofs.YtjdggbanifineaaGreat.Arr
abbrev ksI:List Sh × Bool:=([.i .i64],false)
def tbGK0:=(aI (aI Ty.t117 Ty.t152) (aI Ty.t239 (aI Ty.t3 Ty.t53)))
theorem counts_ok (s:List (Int × Int)) (hl:s.length≤100000) (own:Option Value):Ok Tryz.prog 203 [.list own 1 [[vBks s]]] [] fun v bs rs=>rs=[]∧∃ b g cl,v=.lit (.map (some b))∧bs=[(b,.m ksI (entsK kI vint g) cl)]∧GoodK id (cntF s) g cl∧g.length≤s.length:=by
 refine Ok.of_ex Ty.mixed Tryz.func203 rfl (by simp [Tryz.ntmps203]) (by kernel_rfl) fun F w0 I0=>?_
 simp only [↓rA,rB,buildOk,nt_is,Int.reduceEq,Int.reduceLE,Int.reduceLT,Int.reduceToNat,Nat.reduceAdd,Nat.reduceEqDiff,Nat.reduceLT,Nat.reduceLeDiff,Nat.reduceMul,Nat.reduceSub,reduceCtorEq,tbGK0,Tryz.results203]
 refine fun b1 h1=>?_;replace h1:=newb h1;try simp only [Nb] at h1
 simp only [↓rA,rB,buildOk,nt_is,Int.reduceEq,Int.reduceLE,Int.reduceLT,Int.reduceToNat,Nat.reduceAdd,Nat.reduceEqDiff,Nat.reduceLT,Nat.reduceLeDiff,Nat.reduceMul,Nat.reduceSub,reduceCtorEq,tbGK0,Tryz.results203,h1]
 refine EX_forS Ty.mixed (by kernel_rfl) 1 (fun i S=>(∃ g cl,S.boxes=[(b1,.m ksI (entsK kI vint g) cl)]∧GoodK id (cntF (if i=0 then [] else s)) g cl∧g.length≤(if i=0 then 0 else s.length))∧S.rows=[]∧S.σ 3=.lit (.map (some b1))∧S.σ 9=.list own 1 [[vBks s]]∧S.σ 10=vint 1∧S.σ 11=vint i) ⟨_,_,List.Sublist.refl _,List.Sublist.refl _,?_⟩ (fun i S hi ⟨⟨g,cl,gb,hg,hgl⟩,gr,g3,g9,g10,g11⟩=>?_) (fun S ⟨⟨g,cl,gb,hg,hgl⟩,gr,g3,g9,g10,g11⟩=>?_)
 ·simp only [↓rA,rB,buildOk,nt_is,Int.reduceEq,Int.reduceLE,Int.reduceLT,Int.reduceToNat,Nat.reduceAdd,Nat.reduceEqDiff,Nat.reduceLT,Nat.reduceLeDiff,Nat.reduceMul,Nat.reduceSub,reduceCtorEq,tbGK0,Tryz.results203]
  exact⟨⟨[],0,rfl,GoodK.nil,Nat.le_refl _⟩,rfl⟩
 ·obtain rfl:i=0:=by omega
  simp only [if_true] at hg hgl
  obtain rfl:g=[]:=List.eq_nil_of_length_eq_zero (by omega)
  simp only [↓rA,rB,buildOk,nt_is,Int.reduceEq,Int.reduceLE,Int.reduceLT,Int.reduceToNat,Nat.reduceAdd,Nat.reduceEqDiff,Nat.reduceLT,Nat.reduceLeDiff,Nat.reduceMul,Nat.reduceSub,reduceCtorEq,tbGK0,Tryz.results203,gb,gr,g3,g9,g10,g11]
  refine EX_forS Ty.mixed (by kernel_rfl) s.length (fun j S=>(∃ g cl,S.boxes=[(b1,.m ksI (entsK kI vint g) cl)]∧GoodK id (cntF (s.take j)) g cl∧g.length≤j)∧S.rows=[]∧S.σ 3=.lit (.map (some b1))∧S.σ 9=.list own 1 [[vBks s]]∧S.σ 10=vint 1∧S.σ 11=vint 0∧S.σ 15=vBks s∧S.σ 16=vint s.length∧S.σ 17=vint j) ⟨_,_,List.Sublist.refl _,List.Sublist.refl _,?_⟩ (fun j S hj ⟨⟨g,cl,gb,hg,hgl⟩,gr,g3,g9,g10,g11,g15,g16,g17⟩=>?_) (fun S ⟨⟨g,cl,gb,hg,hgl⟩,gr,g3,g9,g10,g11,g15,g16,g17⟩=>?_)
  ·simp only [↓rA,rB,buildOk,nt_is,Int.reduceEq,Int.reduceLE,Int.reduceLT,Int.reduceToNat,Nat.reduceAdd,Nat.reduceEqDiff,Nat.reduceLT,Nat.reduceLeDiff,Nat.reduceMul,Nat.reduceSub,reduceCtorEq,tbGK0,Tryz.results203,gb,gr,g3,g9,g10,g11,List.length_map]
   exact⟨[],cl,rfl,hg,Nat.le_refl _⟩
  ·have w1:=wrap_succ hj (by omega)
   simp only [↓rA,rB,buildOk,nt_is,Int.reduceEq,Int.reduceLE,Int.reduceLT,Int.reduceToNat,Nat.reduceAdd,Nat.reduceEqDiff,Nat.reduceLT,Nat.reduceLeDiff,Nat.reduceMul,Nat.reduceSub,reduceCtorEq,tbGK0,Tryz.results203,gb,gr,g3,g9,g10,g11,g15,g16,g17,Int.ofNat_lt,hj,List.length_map,getD_map _ _ _ hj]
   refine fun b2 h2=>?_;replace h2:=newb h2;try simp only [Nb] at h2
   simp only [↓rA,rB,buildOk,nt_is,Int.reduceEq,Int.reduceLE,Int.reduceLT,Int.reduceToNat,Nat.reduceAdd,Nat.reduceEqDiff,Nat.reduceLT,Nat.reduceLeDiff,Nat.reduceMul,Nat.reduceSub,reduceCtorEq,tbGK0,Tryz.results203,gb,gr,g3,g9,g10,g11,g15,g16,g17,Int.ofNat_lt,hj,List.length_map,h1,h2]
   have hst:=cntF_take s j hj
   unfold cntS at hst
   have hv:=hg.val s[j].1
   have hfm:=findM_entsK (cV:=vint) keq_I s[j].1 g
   rw [show (Value.int IntKind.i64 s[j].1)=kI s[j].1 from rfl]
   rw [hfm]
   cases hgk:getK g s[j].1 with
   | none =>
    rw [hgk] at hv hfm
    simp only [Option.map_none] at hv hfm
    rw [← hv] at hst
    have hnew:=hg.new hgk (addW.add 0 s[j].2)
    simp only [↓rA,rB,buildOk,nt_is,Int.reduceEq,Int.reduceLE,Int.reduceLT,Int.reduceToNat,Nat.reduceAdd,Nat.reduceEqDiff,Nat.reduceLT,Nat.reduceLeDiff,Nat.reduceMul,Nat.reduceSub,reduceCtorEq,tbGK0,Tryz.results203,gb,gr,g3,g9,g10,g11,g15,g16,g17,h1,h2]
    rw [show (Value.int IntKind.i64 s[j].1)=kI s[j].1 from rfl]
    rw [hfm]
    simp only [↓rA,rB,buildOk,nt_is,Int.reduceEq,Int.reduceLE,Int.reduceLT,Int.reduceToNat,Nat.reduceAdd,Nat.reduceEqDiff,Nat.reduceLT,Nat.reduceLeDiff,Nat.reduceMul,Nat.reduceSub,reduceCtorEq,tbGK0,Tryz.results203,gb,gr,g3,g9,g10,g11,g15,g16,g17,h1,h2,w1]
    refine⟨[_],_,List.Sublist.cons _ (List.Sublist.refl _),List.Sublist.refl _,⟨g++[(cl,s[j].1,addW.add 0 s[j].2)],cl+1,?_,by rw [hst];exact hnew,by rw [List.length_append];exact Nat.succ_le_succ hgl⟩,?_⟩
    ·rw [show entsK kI vint (g++[(cl,s[j].1,addW.add 0 s[j].2)])=entsK kI vint g++[(cl,kI s[j].1,vint (addW.add 0 s[j].2))] by simp [entsK]]
     rfl
    ·simp only [↓rA,rB,buildOk,nt_is,Int.reduceEq,Int.reduceLE,Int.reduceLT,Int.reduceToNat,Nat.reduceAdd,Nat.reduceEqDiff,Nat.reduceLT,Nat.reduceLeDiff,Nat.reduceMul,Nat.reduceSub,reduceCtorEq,tbGK0,Tryz.results203,gb,gr,g3,g9,g10,g11,g15,g16,g17]
   | some p =>
    rw [hgk] at hv hfm
    simp only [Option.map_some] at hv hfm
    rw [← hv] at hst
    have hold:=hg.old hgk (addW.add p.2.2 s[j].2)
    simp only [↓rA,rB,buildOk,nt_is,Int.reduceEq,Int.reduceLE,Int.reduceLT,Int.reduceToNat,Nat.reduceAdd,Nat.reduceEqDiff,Nat.reduceLT,Nat.reduceLeDiff,Nat.reduceMul,Nat.reduceSub,reduceCtorEq,tbGK0,Tryz.results203,gb,gr,g3,g9,g10,g11,g15,g16,g17,h1,h2]
    rw [show (Value.int IntKind.i64 s[j].1)=kI s[j].1 from rfl]
    rw [hfm]
    simp only [↓rA,rB,buildOk,nt_is,Int.reduceEq,Int.reduceLE,Int.reduceLT,Int.reduceToNat,Nat.reduceAdd,Nat.reduceEqDiff,Nat.reduceLT,Nat.reduceLeDiff,Nat.reduceMul,Nat.reduceSub,reduceCtorEq,tbGK0,Tryz.results203,gb,gr,g3,g9,g10,g11,g15,g16,g17,h1,h2,w1]
    refine⟨[_],_,List.Sublist.cons _ (List.Sublist.refl _),List.Sublist.refl _,⟨modK s[j].1 (addW.add p.2.2 s[j].2) g,cl,?_,by rw [hst];exact hold,by rw [modK_len];omega⟩,?_⟩
    ·rw [← modM_entsK (cV:=vint) keq_I]
     rfl
    ·simp only [↓rA,rB,buildOk,nt_is,Int.reduceEq,Int.reduceLE,Int.reduceLT,Int.reduceToNat,Nat.reduceAdd,Nat.reduceEqDiff,Nat.reduceLT,Nat.reduceLeDiff,Nat.reduceMul,Nat.reduceSub,reduceCtorEq,tbGK0,Tryz.results203,gb,gr,g3,g9,g10,g11,g15,g16,g17]
  ·rw [List.take_length] at hg
   simp only [↓rA,rB,buildOk,nt_is,Int.reduceEq,Int.reduceLE,Int.reduceLT,Int.reduceToNat,Nat.reduceAdd,Nat.reduceEqDiff,Nat.reduceLT,Nat.reduceLeDiff,Nat.reduceMul,Nat.reduceSub,reduceCtorEq,tbGK0,Tryz.results203,gb,gr,g3,g9,g10,g11,g15,g16,g17,Int.ofNat_lt,Nat.lt_irrefl,List.length_map]
   refine⟨_,_,List.Sublist.refl _,List.Sublist.refl _,⟨g,cl,gb,hg,hgl⟩,gr,?_⟩
   simp only [↓rA,rB,buildOk,nt_is,Int.reduceEq,Int.reduceLE,Int.reduceLT,Int.reduceToNat,Nat.reduceAdd,Nat.reduceEqDiff,Nat.reduceLT,Nat.reduceLeDiff,Nat.reduceMul,Nat.reduceSub,reduceCtorEq,tbGK0,Tryz.results203,g3,g9,g10]
   rfl
 ·have n1:¬ ((1:Nat):Int) < 1:=by decide
  simp only [Nat.one_ne_zero,if_false] at hg hgl
  simp only [↓rA,rB,buildOk,nt_is,Int.reduceEq,Int.reduceLE,Int.reduceLT,Int.reduceToNat,Nat.reduceAdd,Nat.reduceEqDiff,Nat.reduceLT,Nat.reduceLeDiff,Nat.reduceMul,Nat.reduceSub,reduceCtorEq,tbGK0,Tryz.results203,gb,gr,g3,g9,g10,g11,n1]
  exact⟨_,[_],[],Le.refl _,List.Sublist.refl _,List.nil_sublist _,rfl,b1,g,cl,rfl,rfl,hg,hgl⟩
def tbGK1:=(aI Ty.t117 (aI Ty.t3 Ty.t4))
theorem counted1_ok (i n:Int):OkP Tryz.prog 206 [vint i,vint n] (.tup [.agg (cBk (i,n)),vbool (decide (¬ n=0))]):=by
 refine Ok.of_ex Ty.mixed Tryz.func206 rfl (by simp [Tryz.ntmps206]) (by kernel_rfl) fun F w0 I0=>?_
 simp only [↓rA,rB,buildOk,nt_is,Int.reduceEq,Int.reduceLE,Int.reduceLT,Int.reduceToNat,Nat.reduceAdd,Nat.reduceEqDiff,Nat.reduceLT,Nat.reduceLeDiff,Nat.reduceMul,Nat.reduceSub,reduceCtorEq,tbGK1,Tryz.results206]
 refine fun b1 h1=>?_;replace h1:=newb h1;try simp only [Nb] at h1
 simp only [↓rA,rB,buildOk,nt_is,Int.reduceEq,Int.reduceLE,Int.reduceLT,Int.reduceToNat,Nat.reduceAdd,Nat.reduceEqDiff,Nat.reduceLT,Nat.reduceLeDiff,Nat.reduceMul,Nat.reduceSub,reduceCtorEq,tbGK1,Tryz.results206,h1]
 exact ret_done (by simp)
end Go.Proofs.YtjdggbanifineaaGreat
set_option linter.unusedSimpArgs false
set_option maxRecDepth 100000
set_option linter.defProp false
namespace Go.Ar
open Go.VL Go.Sg
abbrev vu (n:Int):V:=.lit (.int .u64 n)
abbrev cW (w:Int):List V:=[vint (w / 18446744073709551616),vu (w % 18446744073709551616)]
def inWide (w:Int):Prop:=-170141183460469231731687303715884105728≤w∧w < 170141183460469231731687303715884105728
def w128 (n:Int):Int:=(n+170141183460469231731687303715884105728) % 340282366920938463463374607431768211456 - 170141183460469231731687303715884105728
theorem w128_in (n:Int):inWide (w128 n):=by unfold inWide w128;omega
theorem w128_id {n:Int} (h:inWide n):w128 n=n:=by unfold inWide at h;unfold w128;omega
def addWide:Sg.Add Int where
 z:=0
 add a b:=w128 (a+b)
 ok:=inWide
 okz:=by unfold inWide;omega
 okadd _ _:=w128_in _
 comm _ _:=by rw [Int.add_comm]
 assoc {a b c} _ _ _:=by unfold w128;omega
 zadd {a} h:=by rw [Int.zero_add,w128_id h]
theorem add_lo (a b:Int):(a % 18446744073709551616+b % 18446744073709551616+0) % 18446744073709551616=w128 (a+b) % 18446744073709551616:=by unfold w128;omega
theorem add_hi (a b:Int):IntKind.i64.wrap ((IntKind.u64.wrap (a / 18446744073709551616)+IntKind.u64.wrap (b / 18446744073709551616)+(a % 18446744073709551616+b % 18446744073709551616+0) / 18446744073709551616) % 18446744073709551616)=w128 (a+b) / 18446744073709551616:=by
 rw [IntKind.wrap_u64,IntKind.wrap_u64,IntKind.wrap_i64]
 unfold w128;omega
end Go.Ar
namespace Go.Proofs.YtjdggbanifineaaGreat
open Go.VL Go.Ar Go.Sg Go.Proofs.YtjdggbanifineaaGreat Go.Proofs.YtjdggbanifineaaGreat.Arr
theorem add64_ext (S:St) (x y c:Int) (hx:0≤x) (hy:0≤y) (hc:0≤c) (hc1:c≤1):ExtV Tryz.prog S 157 [vu x,vu y,vu c] (.tup [vu ((x+y+c) % 18446744073709551616),vu ((x+y+c) / 18446744073709551616)]):=by
 intro w I xs _ hr
 have:xs=[.int .u64 x,.int .u64 y,.int .u64 c]:=by
  match xs,hr with
  | [x,y,z],hr=>simp only [V.reps,V.rep,and_true] at hr;rw [hr.1,hr.2.1,hr.2.2]
  | [],hr=>simp [V.reps] at hr
  | [_],hr=>simp [V.reps] at hr
  | [_,_],hr=>simp [V.reps] at hr
  | _::_::_::_::_,hr=>simp [V.reps] at hr
 subst this
 refine⟨.tuple #[.int .u64 ((x+y+c) % 18446744073709551616),.int .u64 ((x+y+c) / 18446744073709551616)],w,?_,.inl rfl,?_⟩
 ·rw [run_callFunc_extern Tryz.func157 (by kernel_rfl) (by kernel_rfl) (by kernel_rfl) (e:=add64Entry) (by kernel_rfl),run_add64 x y c hx hy hc hc1 w]
  rfl
 ·simp only [V.rep]
  exact⟨_,rfl,by simp only [V.reps,V.rep,and_true]⟩
def tbGF0:=(aI (aI Ty.c157 Ty.t194) (aI Ty.t3 (aI Ty.t49 Ty.t51)))
theorem wadd_ok (a b:Int):OkP Tryz.prog 135 [.agg (cW a),.agg (cW b)] (.agg (cW (w128 (a+b)))):=by
 refine Ok.of_ex Ty.mixed Tryz.func135 rfl (by simp [Tryz.ntmps135]) (by kernel_rfl) fun F w0 I0=>?_
 simp only [↓rA,rB,buildOk,nt_is,Int.reduceEq,Int.reduceLE,Int.reduceLT,Int.reduceToNat,Nat.reduceAdd,Nat.reduceEqDiff,Nat.reduceLT,Nat.reduceLeDiff,Nat.reduceMul,Nat.reduceSub,reduceCtorEq,tbGF0,Tryz.results135]
 refine fun b1 h1=>?_;replace h1:=newb h1;try simp only [Nb] at h1
 simp only [↓rA,rB,buildOk,nt_is,Int.reduceEq,Int.reduceLE,Int.reduceLT,Int.reduceToNat,Nat.reduceAdd,Nat.reduceEqDiff,Nat.reduceLT,Nat.reduceLeDiff,Nat.reduceMul,Nat.reduceSub,reduceCtorEq,tbGF0,Tryz.results135]
 refine fun b2 h2=>?_;replace h2:=newb h2;try simp only [Nb] at h2
 simp only [↓rA,rB,buildOk,nt_is,Int.reduceEq,Int.reduceLE,Int.reduceLT,Int.reduceToNat,Nat.reduceAdd,Nat.reduceEqDiff,Nat.reduceLT,Nat.reduceLeDiff,Nat.reduceMul,Nat.reduceSub,reduceCtorEq,tbGF0,Tryz.results135,h1,h2]
 refine fun b3 h3=>?_;replace h3:=newb h3;try simp only [Nb] at h3
 simp only [↓rA,rB,buildOk,nt_is,Int.reduceEq,Int.reduceLE,Int.reduceLT,Int.reduceToNat,Nat.reduceAdd,Nat.reduceEqDiff,Nat.reduceLT,Nat.reduceLeDiff,Nat.reduceMul,Nat.reduceSub,reduceCtorEq,tbGF0,Tryz.results135,h1,h2,h3]
 refine ExtF_of _ (add64_ext _ _ _ 0 (by omega) (by omega) (by decide) (by decide)) ?_
 simp only [↓rA,rB,buildOk,nt_is,Int.reduceEq,Int.reduceLE,Int.reduceLT,Int.reduceToNat,Nat.reduceAdd,Nat.reduceEqDiff,Nat.reduceLT,Nat.reduceLeDiff,Nat.reduceMul,Nat.reduceSub,reduceCtorEq,tbGF0,Tryz.results135,h1,h2,h3]
 refine ExtF_of _ (add64_ext _ _ _ _ (by rw [IntKind.wrap_u64];omega) (by rw [IntKind.wrap_u64];omega) (by omega) (by omega)) ?_
 simp only [↓rA,rB,buildOk,nt_is,Int.reduceEq,Int.reduceLE,Int.reduceLT,Int.reduceToNat,Nat.reduceAdd,Nat.reduceEqDiff,Nat.reduceLT,Nat.reduceLeDiff,Nat.reduceMul,Nat.reduceSub,reduceCtorEq,tbGF0,Tryz.results135,h1,h2,h3]
 have e1:=add_lo a b
 have e2:=add_hi a b
 rw [e1,e2]
 exact ret_done rfl
theorem mul_parts (x y:Int):x * y=(x / 4294967296) * (y / 4294967296) * 18446744073709551616+((x / 4294967296) * (y % 4294967296)+(x % 4294967296) * (y / 4294967296)) * 4294967296+(x % 4294967296) * (y % 4294967296):=by
 have hx:x=(x / 4294967296) * 4294967296+x % 4294967296:=by omega
 have hy:y=(y / 4294967296) * 4294967296+y % 4294967296:=by omega
 conv=>lhs;rw [hx,hy]
 generalize x / 4294967296=a;generalize x % 4294967296=b;generalize y / 4294967296=c;generalize y % 4294967296=d
 rw [Int.add_mul,Int.mul_add,Int.mul_add,Int.add_mul]
 have e1:a * 4294967296 * (c * 4294967296)=a * c * 18446744073709551616:=by rw [Int.mul_assoc,Int.mul_left_comm 4294967296,← Int.mul_assoc,show (4294967296:Int) * 4294967296=18446744073709551616 by decide]
 have e2:a * 4294967296 * d=a * d * 4294967296:=by rw [Int.mul_assoc,Int.mul_comm 4294967296,← Int.mul_assoc]
 have e3:b * (c * 4294967296)=b * c * 4294967296:=by rw [Int.mul_assoc]
 rw [e1,e2,e3];omega
theorem mul_bound {a b:Int} (ha:0≤a) (ha':a≤4294967295) (hb:0≤b) (hb':b≤4294967295):0≤a * b∧a * b≤18446744065119617025:=by
 refine⟨Int.mul_nonneg ha hb,?_⟩
 have:=Int.mul_le_mul ha' hb' hb (by omega)
 omega
theorem and32 (n:Int):IntKind.u64.wrap ((BitVec.ofInt IntKind.u64.bits n &&& BitVec.ofInt IntKind.u64.bits 4294967295).toNat:Int)=n % 4294967296:=by
 have e:(BitVec.ofInt IntKind.u64.bits n &&& BitVec.ofInt IntKind.u64.bits 4294967295).toNat=(n % 18446744073709551616).toNat % 4294967296:=by
  rw [BitVec.toNat_and,BitVec.toNat_ofInt,BitVec.toNat_ofInt]
  show (n % 18446744073709551616).toNat &&& 4294967295=_
  exact Nat.and_two_pow_sub_one_eq_mod _ 32
 rw [e,IntKind.wrap_u64];omega
theorem shr32 (n:Int):n.fdiv (2 ^ min 32 IntKind.u64.bits)=n / 4294967296:=Int.fdiv_eq_ediv_of_nonneg _ (by decide)
def tbGF1:=Ty.t49
theorem mul64_ok (x y:Int) (hx:0≤x) (hx':x < 18446744073709551616) (hy:0≤y) (hy':y < 18446744073709551616):OkP Tryz.prog 170 [vu x,vu y] (.tup [vu (x * y / 18446744073709551616),vu (x * y % 18446744073709551616)]):=by
 refine Ok.of_ex Ty.mixed Tryz.func170 rfl (by simp [Tryz.ntmps170]) (by kernel_rfl) fun F w0 I0=>?_
 simp only [↓rA,rB,buildOk,nt_is,Int.reduceEq,Int.reduceLE,Int.reduceLT,Int.reduceToNat,Nat.reduceAdd,Nat.reduceEqDiff,Nat.reduceLT,Nat.reduceLeDiff,Nat.reduceMul,Nat.reduceSub,reduceCtorEq,tbGF1,Tryz.results170]
 refine ret_done ?_
 simp only [and32,shr32]
 simp only [IntKind.wrap_u64]
 have hm:=mul_parts x y
 obtain⟨a1,a2⟩:=mul_bound (a:=x / 4294967296) (b:=y / 4294967296) (by omega) (by omega) (by omega) (by omega)
 obtain⟨b1,b2⟩:=mul_bound (a:=x / 4294967296) (b:=y % 4294967296) (by omega) (by omega) (by omega) (by omega)
 obtain⟨c1,c2⟩:=mul_bound (a:=x % 4294967296) (b:=y / 4294967296) (by omega) (by omega) (by omega) (by omega)
 obtain⟨d1,d2⟩:=mul_bound (a:=x % 4294967296) (b:=y % 4294967296) (by omega) (by omega) (by omega) (by omega)
 generalize x / 4294967296 * (y / 4294967296)=p at *
 generalize x / 4294967296 * (y % 4294967296)=q at *
 generalize x % 4294967296 * (y / 4294967296)=r at *
 generalize x % 4294967296 * (y % 4294967296)=s at *
 generalize x * y=z at *
 subst hm
 congr 4
 ·omega
theorem of_hi (n:Int) (h:inW n):n.fdiv (2 ^ min 63 IntKind.i64.bits)=n / 18446744073709551616:=by
 rw [Int.fdiv_eq_ediv_of_nonneg _ (by decide)]
 unfold inW at h
 show n / 9223372036854775808=_
 omega
def tbGF2:=(aI Ty.t3 (aI Ty.t49 Ty.t51))
theorem wof_ok (n:Int) (h:inW n):OkP Tryz.prog 133 [vint n] (.agg (cW n)):=by
 refine Ok.of_ex Ty.mixed Tryz.func133 rfl (by simp [Tryz.ntmps133]) (by kernel_rfl) fun F w0 I0=>?_
 simp only [↓rA,rB,buildOk,nt_is,Int.reduceEq,Int.reduceLE,Int.reduceLT,Int.reduceToNat,Nat.reduceAdd,Nat.reduceEqDiff,Nat.reduceLT,Nat.reduceLeDiff,Nat.reduceMul,Nat.reduceSub,reduceCtorEq,tbGF2,Tryz.results133]
 refine fun b1 h1=>?_;replace h1:=newb h1;try simp only [Nb] at h1
 simp only [↓rA,rB,buildOk,nt_is,Int.reduceEq,Int.reduceLE,Int.reduceLT,Int.reduceToNat,Nat.reduceAdd,Nat.reduceEqDiff,Nat.reduceLT,Nat.reduceLeDiff,Nat.reduceMul,Nat.reduceSub,reduceCtorEq,tbGF2,Tryz.results133,h1]
 have e:=of_hi n h
 rw [e,IntKind.wrap_u64]
 exact ret_done rfl
theorem pairW {h h' l l':Int} (e:h=h') (e':l=l'):V.agg [vint h,vu l]=V.agg [vint h',vu l']:=by rw [e,e']
theorem scale_z (a n:Int) (ha:inWide a) (hn:inW n):∃ M:Int,a * n=IntKind.u64.wrap (a / 18446744073709551616) * IntKind.u64.wrap n * 18446744073709551616+a % 18446744073709551616 * IntKind.u64.wrap n - (if n < 0 then a % 18446744073709551616 else 0) * 18446744073709551616 - M * 340282366920938463463374607431768211456:=by
 unfold inWide at ha
 unfold inW at hn
 rw [IntKind.wrap_u64,IntKind.wrap_u64]
 have hA:a=a / 18446744073709551616 * 18446744073709551616+a % 18446744073709551616:=by omega
 have hb:-9223372036854775808≤a / 18446744073709551616∧a / 18446744073709551616 < 9223372036854775808:=by omega
 generalize a / 18446744073709551616=A at *
 generalize a % 18446744073709551616=L at *
 subst hA
 have hQ:∃ κ:Int,A * (n % 18446744073709551616)=A % 18446744073709551616 * (n % 18446744073709551616) - κ * 18446744073709551616:=by
  by_cases h:A < 0
  ·refine⟨n % 18446744073709551616,?_⟩
   have:A=A % 18446744073709551616 - 18446744073709551616:=by omega
   conv=>lhs;rw [this]
   rw [Int.sub_mul,Int.mul_comm 18446744073709551616]
  ·refine⟨0,?_⟩
   have:A % 18446744073709551616=A:=by omega
   rw [this];omega
 obtain⟨κ,hQ⟩:=hQ
 by_cases h:n < 0
 ·have hN:n=n % 18446744073709551616 - 18446744073709551616:=by omega
  rw [if_pos h]
  generalize n % 18446744073709551616=N at *
  subst hN
  refine⟨κ+A,?_⟩
  rw [Int.add_mul,Int.mul_sub,Int.mul_sub,Int.mul_right_comm,hQ]
  omega
 ·have hN:n % 18446744073709551616=n:=by omega
  rw [if_neg h]
  rw [hN] at hQ ⊢
  refine⟨κ,?_⟩
  rw [Int.add_mul,Int.mul_right_comm,hQ]
  omega
def tbGF3:=(aI (aI Ty.c170 (aI Ty.t194 Ty.t3)) (aI Ty.t4 (aI Ty.t49 Ty.t51)))
theorem wscale_ok (a n:Int) (ha:inWide a) (hn:inW n):OkP Tryz.prog 159 [.agg (cW a),vint n] (.agg (cW (w128 (a * n)))):=by
 have u1:0≤IntKind.u64.wrap n:=by rw [IntKind.wrap_u64];omega
 have u2:IntKind.u64.wrap n < 18446744073709551616:=by rw [IntKind.wrap_u64];omega
 refine Ok.of_ex Ty.mixed Tryz.func159 rfl (by simp [Tryz.ntmps159]) (by kernel_rfl) fun F w0 I0=>?_
 simp only [↓rA,rB,buildOk,nt_is,Int.reduceEq,Int.reduceLE,Int.reduceLT,Int.reduceToNat,Nat.reduceAdd,Nat.reduceEqDiff,Nat.reduceLT,Nat.reduceLeDiff,Nat.reduceMul,Nat.reduceSub,reduceCtorEq,tbGF3,Tryz.results159]
 refine fun b1 h1=>?_;replace h1:=newb h1;try simp only [Nb] at h1
 simp only [↓rA,rB,buildOk,nt_is,Int.reduceEq,Int.reduceLE,Int.reduceLT,Int.reduceToNat,Nat.reduceAdd,Nat.reduceEqDiff,Nat.reduceLT,Nat.reduceLeDiff,Nat.reduceMul,Nat.reduceSub,reduceCtorEq,tbGF3,Tryz.results159,h1]
 refine fun b2 h2=>?_;replace h2:=newb h2;try simp only [Nb] at h2
 simp only [↓rA,rB,buildOk,nt_is,Int.reduceEq,Int.reduceLE,Int.reduceLT,Int.reduceToNat,Nat.reduceAdd,Nat.reduceEqDiff,Nat.reduceLT,Nat.reduceLeDiff,Nat.reduceMul,Nat.reduceSub,reduceCtorEq,tbGF3,Tryz.results159,h1,h2]
 refine OkF_of _ (mul64_ok (a % 18446744073709551616) (IntKind.u64.wrap n) (by omega) (by omega) u1 u2) ?_
 simp only [↓rA,rB,buildOk,nt_is,Int.reduceEq,Int.reduceLE,Int.reduceLT,Int.reduceToNat,Nat.reduceAdd,Nat.reduceEqDiff,Nat.reduceLT,Nat.reduceLeDiff,Nat.reduceMul,Nat.reduceSub,reduceCtorEq,tbGF3,Tryz.results159,h1,h2]
 by_cases hneg:n < 0
 ·simp only [↓rA,rB,buildOk,nt_is,Int.reduceEq,Int.reduceLE,Int.reduceLT,Int.reduceToNat,Nat.reduceAdd,Nat.reduceEqDiff,Nat.reduceLT,Nat.reduceLeDiff,Nat.reduceMul,Nat.reduceSub,reduceCtorEq,tbGF3,Tryz.results159,h1,h2,hneg]
  refine ret_done ?_
  obtain⟨M,hz⟩:=scale_z a n ha hn
  simp only [hneg,if_true,if_false] at hz
  generalize a * n=z at *
  generalize a % 18446744073709551616 * IntKind.u64.wrap n=p at *
  generalize IntKind.u64.wrap (a / 18446744073709551616) * IntKind.u64.wrap n=q at *
  have hL:0≤a % 18446744073709551616∧a % 18446744073709551616 < 18446744073709551616:=by omega
  generalize a % 18446744073709551616=L at *
  clear ha hn u1 u2
  subst hz
  rw [IntKind.wrap_i64]
  simp only [IntKind.wrap_u64]
  unfold w128
  refine pairW ?_ ?_ <;> omega
 ·simp only [↓rA,rB,buildOk,nt_is,Int.reduceEq,Int.reduceLE,Int.reduceLT,Int.reduceToNat,Nat.reduceAdd,Nat.reduceEqDiff,Nat.reduceLT,Nat.reduceLeDiff,Nat.reduceMul,Nat.reduceSub,reduceCtorEq,tbGF3,Tryz.results159,h1,h2,hneg]
  refine ret_done ?_
  obtain⟨M,hz⟩:=scale_z a n ha hn
  simp only [hneg,if_true,if_false] at hz
  generalize a * n=z at *
  generalize a % 18446744073709551616 * IntKind.u64.wrap n=p at *
  generalize IntKind.u64.wrap (a / 18446744073709551616) * IntKind.u64.wrap n=q at *
  clear ha hn u1 u2
  subst hz
  rw [IntKind.wrap_i64]
  simp only [IntKind.wrap_u64]
  unfold w128
  refine pairW ?_ ?_ <;> omega
def tbGF4:=(aI (aI Ty.c133 Ty.c159) (aI Ty.t3 (aI Ty.t49 Ty.t51)))
theorem wmul_ok (v n:Int) (hv:inW v) (hn:inW n):OkP Tryz.prog 137 [vint v,vint n] (.agg (cW (w128 (v * n)))):=by
 refine Ok.of_ex Ty.mixed Tryz.func137 rfl (by simp [Tryz.ntmps137]) (by kernel_rfl) fun F w0 I0=>?_
 simp only [↓rA,rB,buildOk,nt_is,Int.reduceEq,Int.reduceLE,Int.reduceLT,Int.reduceToNat,Nat.reduceAdd,Nat.reduceEqDiff,Nat.reduceLT,Nat.reduceLeDiff,Nat.reduceMul,Nat.reduceSub,reduceCtorEq,tbGF4,Tryz.results137]
 refine fun b1 h1=>?_;replace h1:=newb h1;try simp only [Nb] at h1
 simp only [↓rA,rB,buildOk,nt_is,Int.reduceEq,Int.reduceLE,Int.reduceLT,Int.reduceToNat,Nat.reduceAdd,Nat.reduceEqDiff,Nat.reduceLT,Nat.reduceLeDiff,Nat.reduceMul,Nat.reduceSub,reduceCtorEq,tbGF4,Tryz.results137,h1]
 refine OkF_of _ (wof_ok v hv) ?_
 simp only [↓rA,rB,buildOk,nt_is,Int.reduceEq,Int.reduceLE,Int.reduceLT,Int.reduceToNat,Nat.reduceAdd,Nat.reduceEqDiff,Nat.reduceLT,Nat.reduceLeDiff,Nat.reduceMul,Nat.reduceSub,reduceCtorEq,tbGF4,Tryz.results137,h1]
 refine OkF_of _ (wscale_ok v n (by unfold inW at hv;unfold inWide;omega) hn) ?_
 simp only [↓rA,rB,buildOk,nt_is,Int.reduceEq,Int.reduceLE,Int.reduceLT,Int.reduceToNat,Nat.reduceAdd,Nat.reduceEqDiff,Nat.reduceLT,Nat.reduceLeDiff,Nat.reduceMul,Nat.reduceSub,reduceCtorEq,tbGF4,Tryz.results137,h1]
 exact ret_done rfl
end Go.Proofs.YtjdggbanifineaaGreat
set_option maxRecDepth 100000
namespace Go.Ar
open Go.VL Go.Sg Go.Lo
abbrev Mk:=FID × Val
def cmpMk (a b:Mk):Int:=orL [cmpS a.1.src b.1.src,cmpI a.1.seq b.1.seq,cmpVal a.2 b.2]
theorem pre_cmpMk:Pre cmpMk:=by
 have h:=(pre_cmpS.pull fun a:Mk=>a.1.src).lex ((pre_cmpI.pull fun a:Mk=>a.1.seq).lex (pre_cmpVal.pull fun a:Mk=>a.2))
 rwa [show cmpMk=_ from funext fun a=>funext fun b=>show orL _=_ by rw [orL_cons,orL2]]
theorem cmpMk_eq0 {a b:Mk}:cmpMk a b=0↔a=b:=by
 unfold cmpMk
 rw [orL_cons,orL2]
 constructor
 ·intro h
  obtain⟨h1,h⟩:=ite0 h
  obtain⟨h2,h3⟩:=ite0 h
  have q1:=cmpS_eq0.1 h1;have q2:=cmpI_eq0.1 h2;have q3:=cmpVal_eq0.1 h3
  obtain⟨⟨a1,a2⟩,a3⟩:=a;obtain⟨⟨b1,b2⟩,b3⟩:=b;simp_all
 ·rintro rfl
  simp [cmpS_eq0.2,cmpI_eq0.2,cmpVal_eq0.2]
def ordM:Sg.Ord Mk:=ordOf cmpMk pre_cmpMk fun h=>cmpMk_eq0.1 h
abbrev Its:=List (Mk × Int)
abbrev Bks:=List (Int × Int)
abbrev Stt:=Int × (Int × (Its × Bks))
instance decIB:DecidableEq (Its × Bks):=instDecidableEqProd
instance decWI:DecidableEq (Int × (Its × Bks)):=instDecidableEqProd
instance decSt:DecidableEq Stt:=instDecidableEqProd
def addIt:Sg.Add Its:=Add.map ordM addW
def addBk:Sg.Add Bks:=Add.map ordI addW
def addSt:Sg.Add Stt:=addW.prod (addWide.prod (addIt.prod addBk))
abbrev zSt:Stt:=(0,(0,([],[])))
def bitsN (n:Nat):Nat:=if n=0 then 0 else Nat.log2 n+1
def bucketN (n:Nat):Nat:=32 * (bitsN n - 6)+n / 2 ^ (bitsN n - 6)
def idxM (n:Int):Int:=if n < 0 then -(bucketN (-n).toNat:Int) else bucketN n.toNat
abbrev sCount:Str:=⟨#[99,111,117,110,116]⟩
abbrev sSum:Str:=⟨#[115,117,109]⟩
abbrev sMean:Str:=⟨#[109,101,97,110]⟩
abbrev sDecay:Str:=⟨#[100,101,99,97,121]⟩
abbrev sQuant:Str:=⟨#[113,117,97,110,116,105,108,101]⟩
abbrev sMin:Str:=⟨#[109,105,110]⟩
abbrev sMax:Str:=⟨#[109,97,120]⟩
abbrev sDist:Str:=⟨#[100,105,115,116,105,110,99,116]⟩
abbrev sFirst:Str:=⟨#[102,105,114,115,116]⟩
abbrev sLast:Str:=⟨#[108,97,115,116]⟩
def fam (op:Str):Nat:=if op=sCount then 1 else if op=sSum∨op=sMean∨op=sDecay then 2 else if op=sQuant then 3 else if op=sMin∨op=sMax∨op=sDist then 4 else if op=sFirst∨op=sLast then 5 else 0
abbrev zid:FID:=⟨⟨#[]⟩,0⟩
def markM (f:Nat) (id:FID) (v:Val):Mk:=if f=5 then (id,v) else (zid,v)
def dItem (f:Nat) (v:Val) (id:FID) (n:Int):Stt:=(n,(if f=2 then w128 (v.n * n) else 0,(if f=4∨f=5 then single addW (markM f id v) n else [],if f=3 then single addW (idxM v.n) n else [])))
def addM (f:Nat) (s:Stt) (v:Val) (id:FID) (n:Int):Stt:=(addW.add s.1 n,(if f=2 then w128 (s.2.1+w128 (v.n * n)) else 0,(if f=4∨f=5 then put ordM addW (markM f id v) n s.2.2.1 else [],if f=3 then put ordI addW (idxM v.n) n s.2.2.2 else [])))
structure FamS (f:Nat) (s:Stt):Prop where
 ok:addSt.ok s
 wide:f ≠ 2→s.2.1=0
 its:f ≠ 4→f ≠ 5→s.2.2.1=[]
 bks:f ≠ 3→s.2.2.2=[]
 zids:f=4→∀ p ∈ s.2.2.1,p.1.1=zid
theorem FamS.zero (f:Nat):FamS f zSt:=⟨addSt.okz,fun _=>rfl,fun _ _=>rfl,fun _=>rfl,fun _ _ hp=>absurd hp List.not_mem_nil⟩
theorem dItem_ok {f:Nat} {v:Val} {id:FID} {n:Int} (hn:inW n):addSt.ok (dItem f v id n):=by
 refine⟨hn,?_,?_,?_⟩
 ·show inWide (if f=2 then _ else 0)
  split
  ·exact w128_in _
  ·exact addWide.okz
 ·show Canon ordM addW (if f=4∨f=5 then _ else [])
  split
  ·exact single_canon _ _ hn
  ·exact Canon.nil
 ·show Canon ordI addW (if f=3 then _ else [])
  split
  ·exact single_canon _ _ hn
  ·exact Canon.nil
theorem addM_eq {f:Nat} {s:Stt} (h:FamS f s) (v:Val) (id:FID) {n:Int} (hn:inW n):addM f s v id n=addSt.add s (dItem f v id n):=by
 obtain⟨s1,s2,s3,s4⟩:=s
 obtain⟨h1,h2,h3,h4⟩:=h.ok
 have e1:=h.wide;have e2:=h.its;have e3:=h.bks
 simp only at e1 e2 e3
 show (_,(_,(_,_)))=(_,(_,(_,_)))
 refine Prod.ext rfl (Prod.ext ?_ (Prod.ext ?_ ?_))
 ·show (if f=2 then _ else (0:Int))=w128 (s2+if f=2 then _ else 0)
  split
  ·rfl
  ·rename_i hf
   rw [e1 hf];rfl
 ·show (if f=4∨f=5 then _ else _)=puts ordM addW s3 (if f=4∨f=5 then _ else _)
  split
  ·exact(puts_single ordM addW h3 _ hn).symm
  ·rename_i hf
   rw [e2 (fun h=>hf (.inl h)) fun h=>hf (.inr h)];rfl
 ·show (if f=3 then _ else _)=puts ordI addW s4 (if f=3 then _ else _)
  split
  ·exact(puts_single ordI addW h4 _ hn).symm
  ·rename_i hf
   rw [e3 hf];rfl
theorem FamS.addM {f:Nat} {s:Stt} (h:FamS f s) (v:Val) (id:FID) {n:Int} (hn:inW n):FamS f (addM f s v id n):=by
 refine⟨by rw [addM_eq h v id hn];exact addSt.okadd h.ok (dItem_ok hn),fun hf=>if_neg hf,fun h4 h5=>if_neg fun h=>h.elim h4 h5,fun hf=>if_neg hf,fun hf p hp=>?_⟩
 subst hf
 have hp':p ∈ put ordM addW (markM 4 id v) n s.2.2.1:=hp
 rcases put_keys hp' with e | hp'
 ·rw [e];rfl
 ·exact h.zids rfl p hp'
theorem single_zero {K:Type} (k:K):single addW k (0:Int)=[]:=if_pos rfl
theorem dItem_zero (f:Nat) (v:Val) (id:FID):dItem f v id 0=zSt:=by
 unfold dItem
 rw [single_zero,single_zero,Int.mul_zero,ite_self,ite_self]
 have:w128 0=0:=rfl
 rw [this,ite_self]
abbrev Cl:=Int × Stt
abbrev dP (f:Nat) (p:Pk):Cl:=(p.1.event,dItem f p.1.val p.1.id p.2)
def updM (f:Nat) (l:List Cl) (ps:List Pk):List Cl:=puts ordI addSt l (ps.map (dP f))
def selB (key:Str) (tick:Int) (p:Pk):Bool:=decide (p.1.key=key) && decide (p.1.tick≤tick)
def cellsM (f:Nat) (ps:List Pk) (key:Str) (tick:Int):List Cl:=updM f [] (ps.filter (selB key tick))
theorem updM_append (f:Nat) (l:List Cl) (p q:List Pk):updM f l (p++q)=updM f (updM f l p) q:=by
 unfold updM puts
 rw [List.map_append,List.foldl_append]
theorem dP_ok {f:Nat} {ps:List Pk} (h:∀ p ∈ ps,inW p.2):∀ c ∈ ps.map (dP f),addSt.ok c.2:=fun c hc=>by
 obtain⟨p,hp,rfl⟩:=List.mem_map.1 hc
 exact dItem_ok (h p hp)
theorem updM_perm (f:Nat) {p q:List Pk} (h:p.Perm q) (hp:∀ x ∈ p,inW x.2):updM f [] p=updM f [] q:=by
 have hm:=h.map (dP f)
 have s1:=puts_spec (Canon.nil (O:=ordI) (A:=addSt)) (dP_ok (f:=f) hp)
 have s2:=puts_spec (Canon.nil (O:=ordI) (A:=addSt)) (dP_ok (f:=f) (ps:=q) fun x hx=>hp x (h.mem_iff.2 hx))
 exact Canon.ext s1.1 s2.1 fun k=>(s1.2 k).trans ((congrArg (addSt.add _) (sumAt_perm hm (dP_ok hp) k)).trans (s2.2 k).symm)
def atP (f:Nat) (key:Str) (tick e:Int) (k:PK) (n:Int):Stt:=if selB key tick (k,n)=true∧k.event=e then dItem f k.val k.id n else zSt
def Few (B:Int) (l:List Pk):Prop:=∀ p ∈ l,-B≤p.2∧p.2≤B
theorem Few.inW {B:Int} {l:List Pk} (h:Few B l) (hB:B≤1000000):∀ p ∈ l,inW p.2:=fun p hp=>by have:=h p hp;unfold Go.Ar.inW;omega
theorem cons_cons {l:List Pk} (h:∀ p ∈ l,inW p.2):consP (consP l)=consP l:=by
 have s1:=puts_spec (Canon.nil (O:=ordP) (A:=addW)) h
 exact(Add.map ordP addW).zadd s1.1
def Bd (n:Nat) (l:List Cl):Prop:=l.length≤n∧∀ c ∈ l,c.2.2.2.1.length≤n∧c.2.2.2.2.length≤n
theorem put_len {K G:Type} [DecidableEq K] [DecidableEq G] (O:Sg.Ord K) (A:Sg.Add G) (k:K) (g:G):∀ l:List (K × G),(put O A k g l).length≤l.length+1
 | []=>by unfold put;split <;> simp
 | q::l=>by
  have ih:=put_len O A k g l
  unfold put
  split
  ·simp only [List.length_cons];omega
  ·split
   ·split <;> simp only [List.length_cons] <;> omega
   ·split <;> simp only [List.length_cons] <;> omega
end Go.Ar
set_option linter.unusedSimpArgs false
set_option maxRecDepth 100000
set_option linter.defProp false
namespace Go.Ar
open Go.VL Go.Sg Go.Lo
abbrev cIt (p:Mk × Int):List V:=[vint p.1.2.kind,vint p.1.2.n,vstr p.1.2.s,vstr p.1.1.src,vint p.1.1.seq,vint p.2]
abbrev vIts (l:Its):V:=.list none 6 (l.map cIt)
def mkB (facts:Bool) (p:Mk):Mk:=if facts=true then p else (zid,p.2)
theorem put_ahead {K G:Type} [DecidableEq K] [DecidableEq G] {O:Sg.Ord K} {A:Sg.Add G} {k:K} {g:G}:∀ {l m:List (K × G)},(∀ p ∈ l,O.lt p.1 k=true)→put O A k g (l++m)=l++put O A k g m
 | [],_,_=>rfl
 | p::l,m,h=>by
  have ih:=put_ahead (O:=O) (A:=A) (k:=k) (g:=g) (l:=l) (m:=m) fun q hq=>h q (List.mem_cons_of_mem _ hq)
  show put O A k g (p::(l++m))=p::(l++put O A k g m)
  rw [← ih]
  show (if O.lt p.1 k=true then p::put O A k g (l++m) else _)=_
  rw [if_pos (h p List.mem_cons_self)]
theorem put_hit {K G:Type} [DecidableEq K] [DecidableEq G] {O:Sg.Ord K} {A:Sg.Add G} {k:K} {g a:G} {m:List (K × G)}:put O A k g ((k,a)::m)=if A.add a g=A.z then m else (k,A.add a g)::m:=by
 unfold put
 rw [if_neg (by rw [O.irr];decide),if_pos rfl]
theorem put_miss {K G:Type} [DecidableEq K] [DecidableEq G] {O:Sg.Ord K} {A:Sg.Add G} {k:K} {g:G} {m:List (K × G)} (hg:¬ g=A.z) (h:∀ p ∈ m,O.lt k p.1=true):put O A k g m=(k,g)::m:=by
 cases m with
 | nil=>unfold put;rw [if_neg hg]
 | cons p m =>
  have h1:=h p List.mem_cons_self
  unfold put
  rw [if_neg (by rw [O.asym h1];decide),if_neg (fun e=>O.ne h1 e.symm),if_neg hg]
end Go.Ar
namespace Go.Proofs.YtjdggbanifineaaGreat
open Go.VL Go.Ar Go.Sg Go.Lo Go.Proofs.YtjdggbanifineaaGreat Go.Proofs.YtjdggbanifineaaGreat.Arr
def tbGO0:=(aI (aI (aI Ty.t106 Ty.t111) (aI Ty.t26 Ty.t28)) (aI (aI Ty.t3 Ty.t4) (aI Ty.t65 Ty.t9)))
theorem mark_ok (facts:Bool) (p:Mk × Int):OkP Tryz.prog 213 [.agg [vbool facts],.agg (cIt p)] (.agg (cIt (mkB facts p.1,0))):=by
 refine Ok.of_ex Ty.mixed Tryz.func213 rfl (by simp [Tryz.ntmps213]) (by kernel_rfl) fun F w0 I0=>?_
 simp only [↓rA,rB,buildOk,nt_is,Int.reduceEq,Int.reduceLE,Int.reduceLT,Int.reduceToNat,Nat.reduceAdd,Nat.reduceEqDiff,Nat.reduceLT,Nat.reduceLeDiff,Nat.reduceMul,Nat.reduceSub,reduceCtorEq,tbGO0,Tryz.results213]
 refine fun b1 h1=>?_;replace h1:=newb h1;try simp only [Nb] at h1
 simp only [↓rA,rB,buildOk,nt_is,Int.reduceEq,Int.reduceLE,Int.reduceLT,Int.reduceToNat,Nat.reduceAdd,Nat.reduceEqDiff,Nat.reduceLT,Nat.reduceLeDiff,Nat.reduceMul,Nat.reduceSub,reduceCtorEq,tbGO0,Tryz.results213,h1]
 refine fun b2 h2=>?_;replace h2:=newb h2;try simp only [Nb] at h2
 simp only [↓rA,rB,buildOk,nt_is,Int.reduceEq,Int.reduceLE,Int.reduceLT,Int.reduceToNat,Nat.reduceAdd,Nat.reduceEqDiff,Nat.reduceLT,Nat.reduceLeDiff,Nat.reduceMul,Nat.reduceSub,reduceCtorEq,tbGO0,Tryz.results213,h1,h2]
 refine fun b3 h3=>?_;replace h3:=newb h3;try simp only [Nb] at h3
 cases facts
 ·simp only [↓rA,rB,buildOk,nt_is,Int.reduceEq,Int.reduceLE,Int.reduceLT,Int.reduceToNat,Nat.reduceAdd,Nat.reduceEqDiff,Nat.reduceLT,Nat.reduceLeDiff,Nat.reduceMul,Nat.reduceSub,reduceCtorEq,tbGO0,Tryz.results213,h1,h2,h3]
  exact ret_done rfl
 ·simp only [↓rA,rB,buildOk,nt_is,Int.reduceEq,Int.reduceLE,Int.reduceLT,Int.reduceToNat,Nat.reduceAdd,Nat.reduceEqDiff,Nat.reduceLT,Nat.reduceLeDiff,Nat.reduceMul,Nat.reduceSub,reduceCtorEq,tbGO0,Tryz.results213,h1,h2,h3]
  exact ret_done rfl
def tbGO1:=(aI (aI (aI Ty.c25 Ty.c38) (aI Ty.c41 (aI Ty.c68 Ty.t26))) (aI (aI Ty.t28 Ty.t3) (aI Ty.t65 (aI Ty.t9 Ty.t91))))
theorem cmpIt_ok (a b:Mk × Int):OkP Tryz.prog 218 [.agg (cIt a),.agg (cIt b)] (vint (cmpMk a.1 b.1)):=by
 refine Ok.of_ex Ty.mixed Tryz.func218 rfl (by simp [Tryz.ntmps218]) (by kernel_rfl) fun F w0 I0=>?_
 simp only [↓rA,rB,buildOk,nt_is,Int.reduceEq,Int.reduceLE,Int.reduceLT,Int.reduceToNat,Nat.reduceAdd,Nat.reduceEqDiff,Nat.reduceLT,Nat.reduceLeDiff,Nat.reduceMul,Nat.reduceSub,reduceCtorEq,tbGO1,Tryz.results218]
 refine fun b1 h1=>?_;replace h1:=newb h1;try simp only [Nb] at h1
 simp only [↓rA,rB,buildOk,nt_is,Int.reduceEq,Int.reduceLE,Int.reduceLT,Int.reduceToNat,Nat.reduceAdd,Nat.reduceEqDiff,Nat.reduceLT,Nat.reduceLeDiff,Nat.reduceMul,Nat.reduceSub,reduceCtorEq,tbGO1,Tryz.results218,h1]
 refine fun b2 h2=>?_;replace h2:=newb h2;try simp only [Nb] at h2
 simp only [↓rA,rB,buildOk,nt_is,Int.reduceEq,Int.reduceLE,Int.reduceLT,Int.reduceToNat,Nat.reduceAdd,Nat.reduceEqDiff,Nat.reduceLT,Nat.reduceLeDiff,Nat.reduceMul,Nat.reduceSub,reduceCtorEq,tbGO1,Tryz.results218,h1,h2]
 refine CallV_of _ (stringsCompare_ok a.1.1.src b.1.1.src).v ?_
 simp only [↓rA,rB,buildOk,nt_is,Int.reduceEq,Int.reduceLE,Int.reduceLT,Int.reduceToNat,Nat.reduceAdd,Nat.reduceEqDiff,Nat.reduceLT,Nat.reduceLeDiff,Nat.reduceMul,Nat.reduceSub,reduceCtorEq,tbGO1,Tryz.results218,h1,h2]
 refine CallV_of _ (cmpI_ok a.1.1.seq b.1.1.seq).v ?_
 simp only [↓rA,rB,buildOk,nt_is,Int.reduceEq,Int.reduceLE,Int.reduceLT,Int.reduceToNat,Nat.reduceAdd,Nat.reduceEqDiff,Nat.reduceLT,Nat.reduceLeDiff,Nat.reduceMul,Nat.reduceSub,reduceCtorEq,tbGO1,Tryz.results218,h1,h2]
 refine CallV_of _ (cmpVal_ok a.1.2 b.1.2).v ?_
 simp only [↓rA,rB,buildOk,nt_is,Int.reduceEq,Int.reduceLE,Int.reduceLT,Int.reduceToNat,Nat.reduceAdd,Nat.reduceEqDiff,Nat.reduceLT,Nat.reduceLeDiff,Nat.reduceMul,Nat.reduceSub,reduceCtorEq,tbGO1,Tryz.results218,h1,h2]
 refine CallV_of _ (or_ok [cmpS a.1.1.src b.1.1.src,cmpI a.1.1.seq b.1.1.seq,cmpVal a.1.2 b.1.2] (by simp)).v ?_
 simp only [↓rA,rB,buildOk,nt_is,Int.reduceEq,Int.reduceLE,Int.reduceLT,Int.reduceToNat,Nat.reduceAdd,Nat.reduceEqDiff,Nat.reduceLT,Nat.reduceLeDiff,Nat.reduceMul,Nat.reduceSub,reduceCtorEq,tbGO1,Tryz.results218]
 exact ret_done rfl
def tbGO2:=(aI (aI (aI Ty.c213 Ty.t106) (aI Ty.t111 Ty.t26)) (aI (aI Ty.t28 Ty.t3) (aI Ty.t4 (aI Ty.t65 Ty.t9))))
theorem ins1_ok (facts:Bool) (m:Mk) (y:Mk × Int) (bk bm:Nat) (hb:bk ≠ bm∧bm ≠ bk):Ok Tryz.prog 215 [.agg (cIt y),ptr bk,ptr bm] [(bk,.c [vbool facts]),(bm,.c (cIt (m,0)))] fun v bs rs=>v=vbool (decide (mkB facts y.1=m))∧bs=[(bk,.c [vbool facts]),(bm,.c (cIt (m,0)))]∧rs=[]:=by
 refine Ok.of_ex Ty.mixed Tryz.func215 rfl (by simp [Tryz.ntmps215]) (by kernel_rfl) fun F w0 I0=>?_
 simp only [↓rA,rB,buildOk,nt_is,Int.reduceEq,Int.reduceLE,Int.reduceLT,Int.reduceToNat,Nat.reduceAdd,Nat.reduceEqDiff,Nat.reduceLT,Nat.reduceLeDiff,Nat.reduceMul,Nat.reduceSub,reduceCtorEq,tbGO2,Tryz.results215]
 refine fun b3 h3=>?_;replace h3:=newb h3;try simp only [Nb] at h3
 simp only [↓rA,rB,buildOk,nt_is,Int.reduceEq,Int.reduceLE,Int.reduceLT,Int.reduceToNat,Nat.reduceAdd,Nat.reduceEqDiff,Nat.reduceLT,Nat.reduceLeDiff,Nat.reduceMul,Nat.reduceSub,reduceCtorEq,tbGO2,Tryz.results215,h3,hb]
 refine CallV_of _ (mark_ok facts y).v ?_
 simp only [↓rA,rB,buildOk,nt_is,Int.reduceEq,Int.reduceLE,Int.reduceLT,Int.reduceToNat,Nat.reduceAdd,Nat.reduceEqDiff,Nat.reduceLT,Nat.reduceLeDiff,Nat.reduceMul,Nat.reduceSub,reduceCtorEq,tbGO2,Tryz.results215,h3,hb]
 refine⟨_,[_,_],[],Le.refl _,List.Sublist.cons _ (List.Sublist.refl _),List.nil_sublist _,?_,rfl,rfl⟩
 congr 3
 generalize mkB facts y.1=q
 obtain⟨⟨q1,q2⟩,q3,q4,q5⟩:=q
 obtain⟨⟨m1,m2⟩,m3,m4,m5⟩:=m
 by_cases h:(((⟨q1,q2⟩,⟨q3,q4,q5⟩):Mk)=(⟨m1,m2⟩,⟨m3,m4,m5⟩))
 ·simp only [Prod.mk.injEq,FID.mk.injEq,Val.mk.injEq] at h
  obtain⟨⟨rfl,rfl⟩,rfl,rfl,rfl⟩:=h
  simp
 ·rw [decide_eq_false h]
  rw [← Bool.not_eq_true]
  simp only [Bool.and_eq_true,decide_eq_true_eq,Prod.mk.injEq,FID.mk.injEq,Val.mk.injEq] at h ⊢
  rintro⟨e1,e2,e3,e4,e5⟩
  exact h ⟨⟨by assumption,by assumption⟩,by assumption,by assumption,by assumption⟩
def tbGO3:=(aI (aI (aI Ty.c213 Ty.c218) (aI Ty.t106 (aI Ty.t111 Ty.t26))) (aI (aI Ty.t28 Ty.t3) (aI Ty.t4 (aI Ty.t65 Ty.t9))))
theorem ins2_ok (facts:Bool) (m:Mk) (n:Int) (y:Mk × Int) (bk bm:Nat) (hb:bk ≠ bm∧bm ≠ bk):Ok Tryz.prog 217 [.agg (cIt y),ptr bk,ptr bm] [(bk,.c [vbool facts]),(bm,.c (cIt (m,n)))] fun v bs rs=>v=vbool (decide (0 < cmpMk (mkB facts y.1) m))∧bs=[(bk,.c [vbool facts]),(bm,.c (cIt (m,n)))]∧rs=[]:=by
 refine Ok.of_ex Ty.mixed Tryz.func217 rfl (by simp [Tryz.ntmps217]) (by kernel_rfl) fun F w0 I0=>?_
 simp only [↓rA,rB,buildOk,nt_is,Int.reduceEq,Int.reduceLE,Int.reduceLT,Int.reduceToNat,Nat.reduceAdd,Nat.reduceEqDiff,Nat.reduceLT,Nat.reduceLeDiff,Nat.reduceMul,Nat.reduceSub,reduceCtorEq,tbGO3,Tryz.results217]
 refine fun b3 h3=>?_;replace h3:=newb h3;try simp only [Nb] at h3
 simp only [↓rA,rB,buildOk,nt_is,Int.reduceEq,Int.reduceLE,Int.reduceLT,Int.reduceToNat,Nat.reduceAdd,Nat.reduceEqDiff,Nat.reduceLT,Nat.reduceLeDiff,Nat.reduceMul,Nat.reduceSub,reduceCtorEq,tbGO3,Tryz.results217,h3,hb]
 refine CallV_of _ (mark_ok facts y).v ?_
 simp only [↓rA,rB,buildOk,nt_is,Int.reduceEq,Int.reduceLE,Int.reduceLT,Int.reduceToNat,Nat.reduceAdd,Nat.reduceEqDiff,Nat.reduceLT,Nat.reduceLeDiff,Nat.reduceMul,Nat.reduceSub,reduceCtorEq,tbGO3,Tryz.results217,h3,hb]
 refine CallV_of _ (cmpIt_ok (mkB facts y.1,0) (m,n)).v ?_
 simp only [↓rA,rB,buildOk,nt_is,Int.reduceEq,Int.reduceLE,Int.reduceLT,Int.reduceToNat,Nat.reduceAdd,Nat.reduceEqDiff,Nat.reduceLT,Nat.reduceLeDiff,Nat.reduceMul,Nat.reduceSub,reduceCtorEq,tbGO3,Tryz.results217,h3,hb]
 exact⟨_,[_,_],[],Le.refl _,List.Sublist.cons _ (List.Sublist.refl _),List.nil_sublist _,rfl,rfl,rfl⟩
theorem item_cells (l:Its) (i:Nat) (hi:i < l.length) (rest:List V):∃ A B:List V,A.length=i * 6∧(l.map cIt).flatten++rest=A++(cIt l[i]++B):=by
 refine⟨((l.take i).map cIt).flatten,((l.drop (i+1)).map cIt).flatten++rest,?_,?_⟩
 ·rw [flatK_len (c:=cIt) (k:=6) (fun _=>rfl),List.length_take,Nat.min_eq_left (by omega)]
 ·conv=>lhs;rw [← List.take_append_drop i l,List.drop_eq_getElem_cons hi]
  simp only [List.map_append,List.map_cons,List.flatten_append,List.flatten_cons,List.append_assoc]
def tbGO4:=(aI (aI (aI Ty.t245 Ty.t26) (aI Ty.t28 Ty.t3)) (aI (aI Ty.t4 Ty.t52) (aI Ty.t65 Ty.t9)))
theorem indexIt_ok (g:FuncId) (hg:callB Tryz.prog g=true) (pb:Mk × Int→Bool) (l:Its) (bk bm b c:Nat) (ck cm rest:List V) (_h1:bk ≠ bm∧bm ≠ bk) (h2:b ≠ bk∧bk ≠ b) (h3:b ≠ bm∧bm ≠ b) (hl:l.length≤1000000)
  (hp:∀ y,Ok Tryz.prog g [.agg (cIt y),ptr bk,ptr bm] [(bk,.c ck),(bm,.c cm)] fun v bs rs=>v=vbool (pb y)∧bs=[(bk,.c ck),(bm,.c cm)]∧rs=[]) :
  Ok Tryz.prog 214 [.lit (.slice (some ⟨b,0,none⟩) l.length c),.lit (.func (.func g) #[] #[.pointer (some ⟨bk,0,none⟩),.pointer (some ⟨bm,0,none⟩)])] [(bk,.c ck),(bm,.c cm),(b,.c ((l.map cIt).flatten++rest))] fun v bs rs =>
   bs=[(bk,.c ck),(bm,.c cm),(b,.c ((l.map cIt).flatten++rest))]∧rs=[]∧((v=vint (-1)∧∀ i (h:i < l.length),pb l[i]=false)∨∃ i,∃ h:i < l.length,v=vint i∧pb l[i]=true∧∀ j (h':j < i),pb (l[j]'(by omega))=false):=by
 refine Ok.of_ex Ty.mixed Tryz.func214 rfl (by simp [Tryz.ntmps214]) (by kernel_rfl) fun F w0 I0=>?_
 simp only [↓rA,rB,buildOk,nt_is,Int.reduceEq,Int.reduceLE,Int.reduceLT,Int.reduceToNat,Nat.reduceAdd,Nat.reduceEqDiff,Nat.reduceLT,Nat.reduceLeDiff,Nat.reduceMul,Nat.reduceSub,reduceCtorEq,tbGO4,Tryz.results214]
 refine EX_for Ty.mixed (by kernel_rfl) l.length (fun i S=>(∀ j (h:j < l.length),j < i→pb l[j]=false)∧S.boxes=[(bk,.c ck),(bm,.c cm),(b,.c ((l.map cIt).flatten++rest))]∧S.rows=[]∧S.σ 0=.lit (.slice (some ⟨b,0,none⟩) l.length c)∧S.σ 1=.lit (.func (.func g) #[] #[.pointer (some ⟨bk,0,none⟩),.pointer (some ⟨bm,0,none⟩)])∧S.σ 7=vint l.length∧S.σ 8=vint i) ⟨0,?_⟩ (fun i S hi ⟨hf,gb,gr,g0,g1,g7,g8⟩=>?_) (fun S ⟨hf,gb,gr,g0,g1,g7,g8⟩=>?_)
 ·simp only [↓rA,rB,buildOk,nt_is,Int.reduceEq,Int.reduceLE,Int.reduceLT,Int.reduceToNat,Nat.reduceAdd,Nat.reduceEqDiff,Nat.reduceLT,Nat.reduceLeDiff,Nat.reduceMul,Nat.reduceSub,reduceCtorEq,tbGO4,Tryz.results214]
  try exact fun j h h'=>absurd h' (Nat.not_lt_zero j)
 ·obtain⟨X,Y,hX,e⟩:=item_cells l i hi rest
  rw [e] at gb
  have w1:=wrap_id (n:=(i:Int)+1) (by omega) (by omega)
  simp only [↓rA,rB,buildOk,nt_is,Int.reduceEq,Int.reduceLE,Int.reduceLT,Int.reduceToNat,Nat.reduceAdd,Nat.reduceEqDiff,Nat.reduceLT,Nat.reduceLeDiff,Nat.reduceMul,Nat.reduceSub,reduceCtorEq,tbGO4,Tryz.results214,gb,gr,g0,g1,g7,g8,h2,h3,Int.ofNat_lt,hi,List.drop_left' hX,hg]
  refine OkF_with [_,_] [_] (List.Perm.refl _) (hp l[i]) ?_
  rintro v bs rs ⟨rfl,rfl,rfl⟩
  cases hx:pb l[i]
  ·simp only [↓rA,rB,buildOk,nt_is,Int.reduceEq,Int.reduceLE,Int.reduceLT,Int.reduceToNat,Nat.reduceAdd,Nat.reduceEqDiff,Nat.reduceLT,Nat.reduceLeDiff,Nat.reduceMul,Nat.reduceSub,reduceCtorEq,tbGO4,Tryz.results214,gb,gr,g0,g1,g7,g8,h2,h3,Int.ofNat_lt,hi,w1]
   exact⟨0,fun j h h'=>if h2:j=i then by subst h2;exact hx else hf j h (by omega),by rw [e];rfl,rfl⟩
  ·simp only [↓rA,rB,buildOk,nt_is,Int.reduceEq,Int.reduceLE,Int.reduceLT,Int.reduceToNat,Nat.reduceAdd,Nat.reduceEqDiff,Nat.reduceLT,Nat.reduceLeDiff,Nat.reduceMul,Nat.reduceSub,reduceCtorEq,tbGO4,Tryz.results214,gb,gr,g0,g1,g7,g8,h2,h3,Int.ofNat_lt,hi]
   exact⟨_,[_,_,_],[],Le.refl _,List.Sublist.refl _,List.nil_sublist _,by rw [e];rfl,rfl,.inr ⟨i,hi,rfl,hx,fun j h'=>hf j (by omega) h'⟩⟩
 ·simp only [↓rA,rB,buildOk,nt_is,Int.reduceEq,Int.reduceLE,Int.reduceLT,Int.reduceToNat,Nat.reduceAdd,Nat.reduceEqDiff,Nat.reduceLT,Nat.reduceLeDiff,Nat.reduceMul,Nat.reduceSub,reduceCtorEq,tbGO4,Tryz.results214,gb,gr,g0,g1,g7,g8,Int.ofNat_lt,Nat.lt_irrefl]
  exact⟨_,[_,_,_],[],Le.refl _,List.Sublist.refl _,List.nil_sublist _,rfl,rfl,.inl ⟨rfl,fun i h=>hf i h h⟩⟩
def tbGO5:=(aI (aI (aI Ty.t245 Ty.t26) (aI Ty.t28 Ty.t3)) (aI (aI Ty.t4 Ty.t52) (aI Ty.t65 Ty.t9)))
theorem indexItNil_ok (fv:V) (bs0:List (Nat × B)):Ok Tryz.prog 214 [nilS,fv] bs0 fun v bs rs=>v=vint (-1)∧bs=bs0∧rs=[]:=by
 refine Ok.of_ex Ty.mixed Tryz.func214 rfl (by simp [Tryz.ntmps214]) (by kernel_rfl) fun F w0 I0=>?_
 simp only [↓rA,rB,buildOk,nt_is,Int.reduceEq,Int.reduceLE,Int.reduceLT,Int.reduceToNat,Nat.reduceAdd,Nat.reduceEqDiff,Nat.reduceLT,Nat.reduceLeDiff,Nat.reduceMul,Nat.reduceSub,reduceCtorEq,tbGO5,Tryz.results214]
 refine EX_for Ty.mixed (by kernel_rfl) 0 (fun i S=>S.boxes=bs0∧S.rows=[]∧S.σ 0=nilS∧S.σ 7=vint 0∧S.σ 8=vint i) ⟨0,?_⟩ (fun i S hi=>absurd hi (Nat.not_lt_zero i)) (fun S ⟨gb,gr,g0,g7,g8⟩=>?_)
 ·simp only [↓rA,rB,buildOk,nt_is,Int.reduceEq,Int.reduceLE,Int.reduceLT,Int.reduceToNat,Nat.reduceAdd,Nat.reduceEqDiff,Nat.reduceLT,Nat.reduceLeDiff,Nat.reduceMul,Nat.reduceSub,reduceCtorEq,tbGO5,Tryz.results214]
 ·simp only [↓rA,rB,buildOk,nt_is,Int.reduceEq,Int.reduceLE,Int.reduceLT,Int.reduceToNat,Nat.reduceAdd,Nat.reduceEqDiff,Nat.reduceLT,Nat.reduceLeDiff,Nat.reduceMul,Nat.reduceSub,reduceCtorEq,tbGO5,Tryz.results214,gb,gr,g0,g7,g8]
  exact⟨_,bs0,[],Le.refl _,List.Sublist.refl _,List.nil_sublist _,rfl,rfl,rfl⟩
def tbGO6:=(aI (aI Ty.t26 (aI Ty.t28 Ty.t3)) (aI (aI Ty.t4 Ty.t52) (aI Ty.t65 Ty.t9)))
theorem cloneIt_ok (l:Its) (hl:l.length≤100000):Ok Tryz.prog 211 [vIts l] [] fun v bs rs=>rs=[]∧((l=[]∧v=nilS∧bs=[])∨∃ b c,l.length≤c∧v=.lit (.slice (some ⟨b,0,none⟩) l.length c)∧bs=[(b,.c ((l.map cIt).flatten++anys ((c - l.length) * 6)))]):=by
 cases l with
 | nil =>
  refine Ok.list0 (fun c=>?_) (fun p c=>?_)
  ·refine Ok.of_ex Ty.mixed Tryz.func211 rfl (by simp [Tryz.ntmps211]) (by kernel_rfl) fun F w0 I0=>?_
   simp only [↓rA,rB,buildOk,nt_is,Int.reduceEq,Int.reduceLE,Int.reduceLT,Int.reduceToNat,Nat.reduceAdd,Nat.reduceEqDiff,Nat.reduceLT,Nat.reduceLeDiff,Nat.reduceMul,Nat.reduceSub,reduceCtorEq,tbGO6,Tryz.results211]
   exact⟨nilS,[],[],Le.refl _,List.nil_sublist _,List.nil_sublist _,rfl,.inl ⟨rfl,rfl⟩⟩
  ·refine Ok.of_ex Ty.mixed Tryz.func211 rfl (by simp [Tryz.ntmps211]) (by kernel_rfl) fun F w0 I0=>?_
   simp only [↓rA,rB,buildOk,nt_is,Int.reduceEq,Int.reduceLE,Int.reduceLT,Int.reduceToNat,Nat.reduceAdd,Nat.reduceEqDiff,Nat.reduceLT,Nat.reduceLeDiff,Nat.reduceMul,Nat.reduceSub,reduceCtorEq,tbGO6,Tryz.results211]
   refine Or2.r ?_
   simp only [↓rA,rB,buildOk,nt_is,Int.reduceEq,Int.reduceLE,Int.reduceLT,Int.reduceToNat,Nat.reduceAdd,Nat.reduceEqDiff,Nat.reduceLT,Nat.reduceLeDiff,Nat.reduceMul,Nat.reduceSub,reduceCtorEq,tbGO6,Tryz.results211]
   refine fun b1 h1=>?_;replace h1:=newb h1;try simp only [Nb] at h1
   simp only [↓rA,rB,buildOk,nt_is,Int.reduceEq,Int.reduceLE,Int.reduceLT,Int.reduceToNat,Nat.reduceAdd,Nat.reduceEqDiff,Nat.reduceLT,Nat.reduceLeDiff,Nat.reduceMul,Nat.reduceSub,reduceCtorEq,tbGO6,Tryz.results211,h1]
   refine Or2.r ?_
   simp only [↓rA,rB,buildOk,nt_is,Int.reduceEq,Int.reduceLE,Int.reduceLT,Int.reduceToNat,Nat.reduceAdd,Nat.reduceEqDiff,Nat.reduceLT,Nat.reduceLeDiff,Nat.reduceMul,Nat.reduceSub,reduceCtorEq,tbGO6,Tryz.results211,h1,remB]
   refine⟨by simp,fun b c' hb hc=>?_⟩
   simp only [↓rA,rB,buildOk,nt_is,Int.reduceEq,Int.reduceLE,Int.reduceLT,Int.reduceToNat,Nat.reduceAdd,Nat.reduceEqDiff,Nat.reduceLT,Nat.reduceLeDiff,Nat.reduceMul,Nat.reduceSub,reduceCtorEq,tbGO6,Tryz.results211,h1,remB]
   refine⟨_,[_],[],Le.refl _,List.Sublist.refl _,List.nil_sublist _,rfl,?_⟩
   first | exact .inr ⟨b,c',rfl,by simp⟩ | exact⟨b,c',rfl,by simp⟩
 | cons x l =>
  refine Ok.of_ex Ty.mixed Tryz.func211 rfl (by simp [Tryz.ntmps211]) (by kernel_rfl) fun F w0 I0=>?_
  simp only [↓rA,rB,buildOk,nt_is,Int.reduceEq,Int.reduceLE,Int.reduceLT,Int.reduceToNat,Nat.reduceAdd,Nat.reduceEqDiff,Nat.reduceLT,Nat.reduceLeDiff,Nat.reduceMul,Nat.reduceSub,reduceCtorEq,tbGO6,Tryz.results211]
  refine Or2.r ?_
  simp only [↓rA,rB,buildOk,nt_is,Int.reduceEq,Int.reduceLE,Int.reduceLT,Int.reduceToNat,Nat.reduceAdd,Nat.reduceEqDiff,Nat.reduceLT,Nat.reduceLeDiff,Nat.reduceMul,Nat.reduceSub,reduceCtorEq,tbGO6,Tryz.results211]
  refine fun b1 h1=>?_;replace h1:=newb h1;try simp only [Nb] at h1
  simp only [↓rA,rB,buildOk,nt_is,Int.reduceEq,Int.reduceLE,Int.reduceLT,Int.reduceToNat,Nat.reduceAdd,Nat.reduceEqDiff,Nat.reduceLT,Nat.reduceLeDiff,Nat.reduceMul,Nat.reduceSub,reduceCtorEq,tbGO6,Tryz.results211,h1]
  refine Or2.r ?_
  simp only [↓rA,rB,buildOk,nt_is,Int.reduceEq,Int.reduceLE,Int.reduceLT,Int.reduceToNat,Nat.reduceAdd,Nat.reduceEqDiff,Nat.reduceLT,Nat.reduceLeDiff,Nat.reduceMul,Nat.reduceSub,reduceCtorEq,tbGO6,Tryz.results211,h1,remB]
  refine⟨⟨by simp,by rw [List.length_map];simp only [List.length_cons] at hl;omega⟩,fun b c' hb hc=>?_⟩
  simp only [↓rA,rB,buildOk,nt_is,Int.reduceEq,Int.reduceLE,Int.reduceLT,Int.reduceToNat,Nat.reduceAdd,Nat.reduceEqDiff,Nat.reduceLT,Nat.reduceLeDiff,Nat.reduceMul,Nat.reduceSub,reduceCtorEq,tbGO6,Tryz.results211,h1,remB]
  refine⟨_,[_],[],Le.refl _,List.Sublist.refl _,List.nil_sublist _,rfl,b,c',by simpa using hc,by simp,by simp⟩
end Go.Proofs.YtjdggbanifineaaGreat
set_option linter.unusedSimpArgs false
set_option maxRecDepth 100000
set_option linter.defProp false
namespace Go.Ar
open Go.VL Go.Sg Go.Lo
theorem pm4 {α:Type} (a b c d:α):[a,b,c,d].Perm [d,b,a,c] :=
 ((List.perm_append_comm (l₁:=[a,b,c]) (l₂:=[d])).trans (List.Perm.cons d (List.Perm.swap b a [c])))
theorem pm4b {α:Type} (a b c d:α):[a,b,c,d].Perm [c,a,b,d]:=(List.Perm.cons a (List.Perm.swap c b [d])).trans (List.Perm.swap c a [b,d])
theorem idx_hit {l:Its} (hc:Canon ordM addW l) {m:Mk} {i:Nat} (hi:i < l.length) (h:l[i].1=m):∃ A a B,l=A++(m,a)::B∧A.length=i∧∀ p ∈ A,ordM.lt p.1 m=true:=by
 refine⟨l.take i,l[i].2,l.drop (i+1),?_,by rw [List.length_take];omega,fun p hp=>?_⟩
 ·rw [← h]
  conv=>lhs;rw [← List.take_append_drop i l,List.drop_eq_getElem_cons hi]
 ·have hs:=hc.sorted
  rw [← List.take_append_drop i l,List.drop_eq_getElem_cons hi] at hs
  rw [← h]
  exact(List.pairwise_append.1 hs).2.2 p hp l[i] List.mem_cons_self
theorem store5 (X Y:List V) (k:Mk) (a v:Int) (i:Nat) (hX:X.length=i * 6):List.take (i * 6+5) (X++(cIt (k,a)++Y))++[vint v]++List.drop (i * 6+5+1) (X++(cIt (k,a)++Y))=X++(cIt (k,v)++Y):=by
 have e1:List.take (i * 6+5) (X++(cIt (k,a)++Y))=X++(cIt (k,a)).take 5:=by rw [← hX,List.take_length_add_append];rfl
 have e2:List.drop (i * 6+5+1) (X++(cIt (k,a)++Y))=Y:=by rw [Nat.add_assoc,← List.drop_drop,List.drop_left' hX];rfl
 rw [e1,e2,List.append_assoc,List.append_assoc];rfl
theorem load5 (X Y:List V) (k:Mk) (a:Int) (i:Nat) (hX:X.length=i * 6):List.drop (i * 6+5) (X++(cIt (k,a)++Y))=vint a::Y:=by
 rw [← List.drop_drop,List.drop_left' hX];rfl
theorem idx_miss {l:Its} (hc:Canon ordM addW l) {m:Mk} (hne:∀ i (h:i < l.length),l[i].1 ≠ m) {j:Nat} (hj:j≤l.length) (hA:∀ i (h:i < j),¬ 0 < cmpMk (l[i]'(by omega)).1 m) (hB:j=l.length∨∃ h:j < l.length,0 < cmpMk l[j].1 m):(∀ p ∈ l.take j,ordM.lt p.1 m=true)∧∀ p ∈ l.drop j,ordM.lt m p.1=true:=by
 refine⟨fun p hp=>?_,fun p hp=>?_⟩
 ·obtain⟨i,hi,rfl⟩:=List.getElem_of_mem hp
  rw [List.length_take] at hi
  rw [List.getElem_take]
  have h1:=hA i (by omega)
  have h2:=hne i (by omega)
  refine decide_eq_true ?_
  have h3:¬ cmpMk l[i].1 m=0:=fun e=>h2 (cmpMk_eq0.1 e)
  omega
 ·rcases hB with e | ⟨h,h0⟩
  ·rw [e,List.drop_length] at hp;cases hp
  ·have hs:=hc.sorted
   rw [← List.take_append_drop j l,List.drop_eq_getElem_cons h] at hs
   have hs2:=List.pairwise_cons.1 (List.pairwise_append.1 hs).2.1
   have hk:ordM.lt m l[j].1=true:=decide_eq_true (by have:=pre_cmpMk.anti l[j].1 m;omega)
   rw [List.drop_eq_getElem_cons h] at hp
   rcases List.mem_cons.1 hp with rfl | hp
   ·exact hk
   ·exact ordM.tr hk (hs2.1 p hp)
theorem ins_cells (l:Its) (j:Nat) (hj:j≤l.length) (rest0 rest:List V) (g:Mk × Int):List.take (j * 6) ((l.map cIt).flatten++rest0)++cIt g++List.drop (j * 6) (List.take (l.length * 6) ((l.map cIt).flatten++rest0))++rest=((l.take j++g::l.drop j).map cIt).flatten++rest:=by
 have h1:((l.map cIt).flatten).length=l.length * 6:=flatK_len (c:=cIt) (k:=6) (fun _=>rfl) l
 have h2:(((l.take j).map cIt).flatten).length=j * 6:=by rw [flatK_len (c:=cIt) (k:=6) (fun _=>rfl),List.length_take,Nat.min_eq_left hj]
 have h3:(l.map cIt).flatten=((l.take j).map cIt).flatten++((l.drop j).map cIt).flatten:=by rw [← List.flatten_append,← List.map_append,List.take_append_drop]
 rw [List.take_left' h1,List.take_append_of_le_length (by rw [h1];omega),h3,List.take_left' h2,List.drop_left' h2]
 simp only [List.map_append,List.map_cons,List.flatten_append,List.flatten_cons,List.append_assoc]
theorem put_mid {l:Its} {j:Nat} {m:Mk} {n:Int} (hn:¬ n=0) (h:(∀ p ∈ l.take j,ordM.lt p.1 m=true)∧∀ p ∈ l.drop j,ordM.lt m p.1=true):put ordM addW m n l=l.take j++(m,n)::l.drop j:=by
 conv=>lhs;rw [← List.take_append_drop j l]
 rw [put_ahead h.1,put_miss hn h.2]
end Go.Ar
namespace Go.Proofs.YtjdggbanifineaaGreat
open Go.VL Go.Ar Go.Sg Go.Lo Go.Proofs.YtjdggbanifineaaGreat Go.Proofs.YtjdggbanifineaaGreat.Arr
def tbGQ0:=(aI (aI (aI (aI Ty.c211 Ty.c213) (aI Ty.c214 Ty.c215)) (aI (aI Ty.c216 Ty.c217) (aI Ty.c219 Ty.t106))) (aI (aI (aI Ty.t111 Ty.t245) (aI Ty.t26 Ty.t28)) (aI (aI Ty.t3 Ty.t4) (aI Ty.t52 (aI Ty.t65 Ty.t9)))))
theorem insert_raw (facts:Bool) (l:Its) (hc:Canon ordM addW l) (hz:∀ p ∈ l,mkB facts p.1=p.1) (k:Mk) (n:Int) (_hn:inW n) (hn0:¬ n=0) (hl:l.length≤90000):Ok Tryz.prog 212 [.agg [vbool facts],vIts l,.agg (cIt (k,n))] [] fun v bs rs=>rs=[]∧∃ b c rest,(put ordM addW (mkB facts k) n l).length≤c∧v=.lit (.slice (some ⟨b,0,none⟩) (put ordM addW (mkB facts k) n l).length c)∧bs=[(b,.c (((put ordM addW (mkB facts k) n l).map cIt).flatten++rest))]:=by
 have k1:callB Tryz.prog 215=true:=by kernel_rfl
 have k2:callB Tryz.prog 217=true:=by kernel_rfl
 refine Ok.of_ex Ty.mixed Tryz.func212 rfl (by simp [Tryz.ntmps212]) (by kernel_rfl) fun F w0 I0=>?_
 simp only [↓rA,rB,buildOk,nt_is,Int.reduceEq,Int.reduceLE,Int.reduceLT,Int.reduceToNat,Nat.reduceAdd,Nat.reduceEqDiff,Nat.reduceLT,Nat.reduceLeDiff,Nat.reduceMul,Nat.reduceSub,reduceCtorEq,tbGQ0,Tryz.results212]
 refine fun b3 h3=>?_;replace h3:=newb h3;try simp only [Nb] at h3
 simp only [↓rA,rB,buildOk,nt_is,Int.reduceEq,Int.reduceLE,Int.reduceLT,Int.reduceToNat,Nat.reduceAdd,Nat.reduceEqDiff,Nat.reduceLT,Nat.reduceLeDiff,Nat.reduceMul,Nat.reduceSub,reduceCtorEq,tbGQ0,Tryz.results212,h3]
 refine fun b5 h5=>?_;replace h5:=newb h5;try simp only [Nb] at h5
 simp only [↓rA,rB,buildOk,nt_is,Int.reduceEq,Int.reduceLE,Int.reduceLT,Int.reduceToNat,Nat.reduceAdd,Nat.reduceEqDiff,Nat.reduceLT,Nat.reduceLeDiff,Nat.reduceMul,Nat.reduceSub,reduceCtorEq,tbGQ0,Tryz.results212,h3,h5]
 refine OkF_of _ (mark_ok facts (k,n)) ?_
 simp only [↓rA,rB,buildOk,nt_is,Int.reduceEq,Int.reduceLE,Int.reduceLT,Int.reduceToNat,Nat.reduceAdd,Nat.reduceEqDiff,Nat.reduceLT,Nat.reduceLeDiff,Nat.reduceMul,Nat.reduceSub,reduceCtorEq,tbGQ0,Tryz.results212,h3,h5]
 generalize mkB facts k=m
 refine fun b7 h7=>?_;replace h7:=newb h7;try simp only [Nb] at h7
 simp only [↓rA,rB,buildOk,nt_is,Int.reduceEq,Int.reduceLE,Int.reduceLT,Int.reduceToNat,Nat.reduceAdd,Nat.reduceEqDiff,Nat.reduceLT,Nat.reduceLeDiff,Nat.reduceMul,Nat.reduceSub,reduceCtorEq,tbGQ0,Tryz.results212,h3,h5,h7]
 have hh:=And.intro h3 (And.intro h5 h7)
 refine OkF_withN [] [_,_,_] (List.Perm.refl _) (cloneIt_ok l (by omega)) ?_
 rintro v bs rs ⟨rfl,⟨rfl,rfl,rfl⟩ | ⟨b,c,hlc,rfl,rfl⟩⟩ hN
 ·simp only [↓rA,rB,buildOk,nt_is,Int.reduceEq,Int.reduceLE,Int.reduceLT,Int.reduceToNat,Nat.reduceAdd,Nat.reduceEqDiff,Nat.reduceLT,Nat.reduceLeDiff,Nat.reduceMul,Nat.reduceSub,reduceCtorEq,tbGQ0,Tryz.results212,hh,k1,k2]
  refine OkF_with [] [_,_,_] (List.Perm.refl _) (indexItNil_ok _ []) ?_
  rintro v bs rs ⟨rfl,rfl,rfl⟩
  simp only [↓rA,rB,buildOk,nt_is,Int.reduceEq,Int.reduceLE,Int.reduceLT,Int.reduceToNat,Nat.reduceAdd,Nat.reduceEqDiff,Nat.reduceLT,Nat.reduceLeDiff,Nat.reduceMul,Nat.reduceSub,reduceCtorEq,tbGQ0,Tryz.results212,hh,k1,k2]
  refine OkF_with [] [_,_,_] (List.Perm.refl _) (indexItNil_ok _ []) ?_
  rintro v bs rs ⟨rfl,rfl,rfl⟩
  simp only [↓rA,rB,buildOk,nt_is,Int.reduceEq,Int.reduceLE,Int.reduceLT,Int.reduceToNat,Nat.reduceAdd,Nat.reduceEqDiff,Nat.reduceLT,Nat.reduceLeDiff,Nat.reduceMul,Nat.reduceSub,reduceCtorEq,tbGQ0,Tryz.results212,hh,k1,k2]
  refine fun y=>OkF_with [] [_,_,_] (List.Perm.refl _) (insItNil_ok (cIt (m,n)) (some y)) ?_
  rintro v bs rs ⟨rfl,b,c,hc1,rfl,rfl⟩
  simp only [↓rA,rB,buildOk,nt_is,Int.reduceEq,Int.reduceLE,Int.reduceLT,Int.reduceToNat,Nat.reduceAdd,Nat.reduceEqDiff,Nat.reduceLT,Nat.reduceLeDiff,Nat.reduceMul,Nat.reduceSub,reduceCtorEq,tbGQ0,Tryz.results212,hh]
  have e:put ordM addW m n []=[(m,n)]:=put_miss hn0 fun p hp=>absurd hp List.not_mem_nil
  rw [e]
  exact⟨_,[_],[],Le.refl _,List.Sublist.cons_cons _ (List.nil_sublist _),List.nil_sublist _,rfl,b,c,anys ((c - 1) * 6),hc1,rfl,by simp⟩
 ·simp only [List.cons_append,List.nil_append,List.map_cons,List.map_nil,List.nodup_cons,List.mem_cons,List.not_mem_nil,or_false,not_or,List.nodup_nil,not_false_eq_true,and_true] at hN
  have hm:(b ≠ b7∧b7 ≠ b)∧(b ≠ b5∧b5 ≠ b)∧(b ≠ b3∧b3 ≠ b):=⟨⟨hN.1.1,fun e=>hN.1.1 e.symm⟩,⟨hN.1.2.1,fun e=>hN.1.2.1 e.symm⟩,⟨hN.1.2.2,fun e=>hN.1.2.2 e.symm⟩⟩
  have h73:b3 ≠ b7∧b7 ≠ b3:=by simp only [Dum,and_true] at h7;exact h7.2
  simp only [↓rA,rB,buildOk,nt_is,Int.reduceEq,Int.reduceLE,Int.reduceLT,Int.reduceToNat,Nat.reduceAdd,Nat.reduceEqDiff,Nat.reduceLT,Nat.reduceLeDiff,Nat.reduceMul,Nat.reduceSub,reduceCtorEq,tbGQ0,Tryz.results212,hh,hm,k1,k2]
  refine OkF_with [_,_,_] [_] (pm4 _ _ _ _) (indexIt_ok _ k1 (fun y=>decide (mkB facts y.1=m)) l b3 b7 b c _ _ _ h73 ⟨hm.2.2.1,hm.2.2.2⟩ ⟨hm.1.1,hm.1.2⟩ (by omega) fun y=>ins1_ok facts m y b3 b7 h73) ?_
  rintro v bs rs ⟨rfl,rfl,⟨rfl,hno⟩ | ⟨i,hi,rfl,hit,hbef⟩⟩
  ·simp only [↓rA,rB,buildOk,nt_is,Int.reduceEq,Int.reduceLE,Int.reduceLT,Int.reduceToNat,Nat.reduceAdd,Nat.reduceEqDiff,Nat.reduceLT,Nat.reduceLeDiff,Nat.reduceMul,Nat.reduceSub,reduceCtorEq,tbGQ0,Tryz.results212,hh,hm,k1,k2]
   refine OkF_with [_,_,_] [_] (List.Perm.refl _) (indexIt_ok _ k2 (fun y=>decide (0 < cmpMk (mkB facts y.1) m)) l b3 b7 b c _ _ _ h73 ⟨hm.2.2.1,hm.2.2.2⟩ ⟨hm.1.1,hm.1.2⟩ (by omega) fun y=>ins2_ok facts m n y b3 b7 h73) ?_
   have hcs:((l.map cIt).flatten++anys ((c - l.length) * 6)).length=c * 6:=by rw [List.length_append,flatK_len (c:=cIt) (k:=6) (fun _=>rfl),anys_len,← Nat.add_mul];congr 1;omega
   have hne:∀ i (h:i < l.length),l[i].1 ≠ m:=fun i h=>by
    have:=hno i h
    rw [hz _ (List.getElem_mem h)] at this
    exact of_decide_eq_false this
   rintro v bs rs ⟨rfl,rfl,⟨rfl,hno2⟩ | ⟨j,hj,rfl,hjt,hbef2⟩⟩
   ·have hpm:=put_mid hn0 (idx_miss hc hne (Nat.le_refl _) (fun i h=>by
     have:=hno2 i h
     rw [hz _ (List.getElem_mem h)] at this
     exact of_decide_eq_false this) (.inl rfl))
    simp only [↓rA,rB,buildOk,nt_is,Int.reduceEq,Int.reduceLE,Int.reduceLT,Int.reduceToNat,Nat.reduceAdd,Nat.reduceEqDiff,Nat.reduceLT,Nat.reduceLeDiff,Nat.reduceMul,Nat.reduceSub,reduceCtorEq,tbGQ0,Tryz.results212,hh,hm,k1,k2]
    refine fun y=>OkF_with [_] [_,_,_] (pm4b _ _ _ _) (insIt_ok _ l.length l.length c b (cIt (m,n)) (some y) rfl hcs (Nat.le_refl _) hlc (by omega)) ?_
    rintro v bs rs ⟨rfl,b',c',rest,h1,rfl,h2,rfl⟩
    simp only [↓rA,rB,buildOk,nt_is,Int.reduceEq,Int.reduceLE,Int.reduceLT,Int.reduceToNat,Nat.reduceAdd,Nat.reduceEqDiff,Nat.reduceLT,Nat.reduceLeDiff,Nat.reduceMul,Nat.reduceSub,reduceCtorEq,tbGQ0,Tryz.results212,hh,hm]
    rw [hpm]
    rw [ins_cells l l.length (Nat.le_refl _)]
    have hlen:(l.take l.length++(m,n)::l.drop l.length).length=l.length+1:=by simp
    exact⟨_,[_],[],Le.refl _,List.Sublist.cons_cons _ (List.nil_sublist _),List.nil_sublist _,rfl,b',c',rest,by rw [hlen];exact h1,by rw [hlen],rfl⟩
   ·have hpm:=put_mid hn0 (idx_miss hc hne (Nat.le_of_lt hj) (fun i h=>by
     have:=hbef2 i h
     rw [hz _ (List.getElem_mem _)] at this
     exact of_decide_eq_false this) (.inr ⟨hj,by rw [hz _ (List.getElem_mem _)] at hjt;exact of_decide_eq_true hjt⟩))
    have hj0:¬ (j:Int) < 0:=by omega
    simp only [↓rA,rB,buildOk,nt_is,Int.reduceEq,Int.reduceLE,Int.reduceLT,Int.reduceToNat,Nat.reduceAdd,Nat.reduceEqDiff,Nat.reduceLT,Nat.reduceLeDiff,Nat.reduceMul,Nat.reduceSub,reduceCtorEq,tbGQ0,Tryz.results212,hh,hm,k1,k2,hj0]
    refine fun y=>OkF_with [_] [_,_,_] (pm4b _ _ _ _) (insIt_ok _ j l.length c b (cIt (m,n)) (some y) rfl hcs (Nat.le_of_lt hj) hlc (by omega)) ?_
    rintro v bs rs ⟨rfl,b',c',rest,h1,rfl,h2,rfl⟩
    simp only [↓rA,rB,buildOk,nt_is,Int.reduceEq,Int.reduceLE,Int.reduceLT,Int.reduceToNat,Nat.reduceAdd,Nat.reduceEqDiff,Nat.reduceLT,Nat.reduceLeDiff,Nat.reduceMul,Nat.reduceSub,reduceCtorEq,tbGQ0,Tryz.results212,hh,hm]
    rw [hpm]
    rw [ins_cells l j (Nat.le_of_lt hj)]
    have hlen:(l.take j++(m,n)::l.drop j).length=l.length+1:=by simp;omega
    exact⟨_,[_],[],Le.refl _,List.Sublist.cons_cons _ (List.nil_sublist _),List.nil_sublist _,rfl,b',c',rest,by rw [hlen];exact h1,by rw [hlen],rfl⟩
  ·have hit:=of_decide_eq_true hit
   rw [hz _ (List.getElem_mem hi)] at hit
   obtain⟨A,a,B,e,hA,hlt⟩:=idx_hit hc hi hit
   have hA6:((A.map cIt).flatten).length=i * 6:=by rw [flatK_len (c:=cIt) (k:=6) (fun _=>rfl),hA]
   have el:∀ v rest,(((A++(m,v)::B).map cIt).flatten++rest)=(A.map cIt).flatten++(cIt (m,v)++((B.map cIt).flatten++rest)):=fun v rest=>by simp only [List.map_append,List.map_cons,List.flatten_append,List.flatten_cons,List.append_assoc]
   have hni:(0:Int)≤(i:Int):=by omega
   have hpa:a ≠ 0∧inW a:=hc.val (m,a) (by rw [e];simp)
   have hpt:put ordM addW m n l=if addW.add a n=0 then A++B else A++(m,addW.add a n)::B:=by
    rw [e,put_ahead hlt,put_hit]
    show (A++if addW.add a n=0 then _ else _)=_
    split <;> rfl
   have hll:l.length=A.length+(B.length+1):=by rw [e];simp
   have hY:(((B.map cIt).flatten)++anys ((c - l.length) * 6)).length=(c - (i+1)) * 6:=by rw [List.length_append,flatK_len (c:=cIt) (k:=6) (fun _=>rfl),anys_len];omega
   have hfl:(l.map cIt).flatten++anys ((c - l.length) * 6)=(A.map cIt).flatten++(cIt (m,a)++((B.map cIt).flatten++anys ((c - l.length) * 6))):=by
    conv=>lhs;rw [e]
    rw [el,← e]
   rw [hfl]
   have hB6:((B.map cIt).flatten).length=(l.length - (i+1)) * 6:=by rw [flatK_len (c:=cIt) (k:=6) (fun _=>rfl)];congr 1;omega
   have q0:=store5 (A.map cIt).flatten ((B.map cIt).flatten++anys ((c - l.length) * 6)) m a (addW.add a n) i hA6
   have q1:=load5 (A.map cIt).flatten ((B.map cIt).flatten++anys ((c - l.length) * 6)) m a i hA6
   have q2:=load5 (A.map cIt).flatten ((B.map cIt).flatten++anys ((c - l.length) * 6)) m (addW.add a n) i hA6
   have q3:i * 6+5+1≤((A.map cIt).flatten++(cIt (m,a)++((B.map cIt).flatten++anys ((c - l.length) * 6)))).length:=by
    simp only [List.length_append,hA6,List.length_cons,List.length_nil];omega
   simp only [cIt,List.cons_append,List.nil_append] at q0 q1 q2 q3
   have w1:IntKind.i64.wrap (a+n)=addW.add a n:=rfl
   have w2:=wrap_succ (i:=i) (N:=l.length) hi (by omega)
   generalize addW.add a n=an at w1 q0 q2 hpt
   by_cases ha:an=0
   ·subst ha
    rw [if_pos rfl] at hpt
    rw [hpt]
    simp only [↓rA,rB,buildOk,nt_is,Int.reduceEq,Int.reduceLE,Int.reduceLT,Int.reduceToNat,Nat.reduceAdd,Nat.reduceEqDiff,Nat.reduceLT,Nat.reduceLeDiff,Nat.reduceMul,Nat.reduceSub,reduceCtorEq,tbGQ0,Tryz.results212,hh,hm,k1,k2,hni,q0,q1,q2,q3,Int.ofNat_lt,hi,w1,w2]
    refine OkF_with [_] [_,_,_] (pm4b _ _ _ _) (delIt_ok (A.map cIt).flatten (B.map cIt).flatten (cIt (m,0)) (anys ((c - l.length) * 6)) i l.length c b hA6 rfl hB6 hi hlc (by omega) (anys_len _)) ?_
    rintro v bs rs ⟨rfl,rest',rfl,h2,rfl⟩
    simp only [↓rA,rB,buildOk,nt_is,Int.reduceEq,Int.reduceLE,Int.reduceLT,Int.reduceToNat,Nat.reduceAdd,Nat.reduceEqDiff,Nat.reduceLT,Nat.reduceLeDiff,Nat.reduceMul,Nat.reduceSub,reduceCtorEq,tbGQ0,Tryz.results212,hh,hm]
    have hlen:(A++B).length=l.length - 1:=by rw [List.length_append];omega
    exact⟨_,[_],[],Le.refl _,List.Sublist.cons_cons _ (List.nil_sublist _),List.nil_sublist _,rfl,b,c,rest',by rw [hlen];omega,by rw [hlen],by simp only [List.map_append,List.flatten_append,List.append_assoc]⟩
   ·rw [if_neg ha] at hpt
    rw [hpt]
    simp only [↓rA,rB,buildOk,nt_is,Int.reduceEq,Int.reduceLE,Int.reduceLT,Int.reduceToNat,Nat.reduceAdd,Nat.reduceEqDiff,Nat.reduceLT,Nat.reduceLeDiff,Nat.reduceMul,Nat.reduceSub,reduceCtorEq,tbGQ0,Tryz.results212,hh,hm,k1,k2,hni,q0,q1,q2,q3,Int.ofNat_lt,hi,w1,w2,ha]
    have hlen:(A++(m,an)::B).length=l.length:=by rw [List.length_append,List.length_cons];omega
    exact⟨_,[_],[],Le.refl _,List.Sublist.cons _ (List.Sublist.cons _ (List.Sublist.cons_cons _ (List.nil_sublist _))),List.nil_sublist _,rfl,b,c,anys ((c - l.length) * 6),by rw [hlen];exact hlc,by rw [hlen],by rw [el];rfl⟩
end Go.Proofs.YtjdggbanifineaaGreat
set_option linter.unusedSimpArgs false
set_option maxRecDepth 100000
set_option linter.defProp false
namespace Go.Ar
open Go.VL Go.Sg Go.Lo
def ordL (f:Int→Option Int) (ks:List Int):List (Int × Int):=ks.filterMap fun k=>if (f k).getD 0=0 then none else some (k,(f k).getD 0)
theorem ordL_snoc (f:Int→Option Int) (ks:List Int) (k:Int):ordL f (ks++[k])=ordL f ks++(if (f k).getD 0=0 then [] else [(k,(f k).getD 0)]):=by
 unfold ordL
 rw [List.filterMap_append]
 by_cases h:(f k).getD 0=0 <;> simp [h]
theorem ordL_len (f:Int→Option Int) (ks:List Int):(ordL f ks).length≤ks.length:=List.length_filterMap_le _ _
theorem ordL_spec {f:Int→Option Int} {ks:List Int} (hin:∀ i v,f i=some v→inW v) (hs:ks.Pairwise (· < ·)):Canon ordI addW (ordL f ks)∧∀ i,Sg.get ordI addW (ordL f ks) i=if i ∈ ks then (f i).getD 0 else 0:=by
 have hin':∀ i,inW ((f i).getD 0):=fun i=>by
  cases h:f i with
  | none=>exact addW.okz
  | some v=>exact hin i v h
 induction ks with
 | nil=>exact⟨Canon.nil,fun _=>rfl⟩
 | cons k ks ih =>
  have hc:=List.pairwise_cons.1 hs
  obtain⟨h1,h2⟩:=ih hc.2
  have hk:∀ q ∈ ordL f ks,q.1 ∈ ks:=fun q hq=>by
   obtain⟨j,hj,e⟩:=List.mem_filterMap.1 hq
   split at e
   ·cases e
   ·cases e;exact hj
  have hkn:k ∉ ks:=fun h=>Int.lt_irrefl _ (hc.1 k h)
  by_cases h0:(f k).getD 0=0
  ·have e:ordL f (k::ks)=ordL f ks:=by simp [ordL,h0]
   rw [e]
   refine⟨h1,fun i=>?_⟩
   rw [h2]
   by_cases e:i=k
   ·subst e;simp [hkn,h0]
   ·simp [e]
  ·have e:ordL f (k::ks)=(k,(f k).getD 0)::ordL f ks:=by simp [ordL,h0]
   rw [e]
   refine⟨⟨List.pairwise_cons.2 ⟨fun q hq=>decide_eq_true ((ltI _ _).2 (hc.1 _ (hk q hq))),h1.sorted⟩,fun q hq=>?_⟩,fun i=>?_⟩
   ·rcases List.mem_cons.1 hq with rfl | hq
    ·exact⟨h0,hin' k⟩
    ·exact h1.val q hq
   ·unfold Sg.get
    by_cases e:k=i
    ·subst e;simp
    ·rw [if_neg e,h2]
     simp [show ¬ i=k from fun h=>e h.symm]
end Go.Ar
namespace Go.Proofs.YtjdggbanifineaaGreat
open Go.VL Go.Ar Go.Sg Go.Lo Go.Proofs.YtjdggbanifineaaGreat Go.Proofs.YtjdggbanifineaaGreat.Arr
abbrev slI (g n c:Nat):V:=.lit (.slice (some ⟨g,0,none⟩) n c)
theorem sortI_ok (zs:List Int) (rest:List V) (b cap:Nat) (hsz:zs.length < 4611686018427387904):Ok Tryz.prog 105 [slI b zs.length cap] [(b,.c (zs.map vint++rest))] fun v bs rs=>v=.tup []∧bs=[(b,.c ((zs.mergeSort fun x y=>decide (x≤y)).map vint++rest))]∧rs=[] :=
 Ok.sortAll Tryz.sortI zs rest b cap hsz
def tbGL0:=(aI (aI (aI Ty.c105 Ty.t117) (aI Ty.t152 Ty.t238)) (aI (aI Ty.t240 Ty.t3) (aI Ty.t4 (aI Ty.t53 Ty.t91))))
theorem ordered_ok (f:Int→Option Int) (g:List (Nat × Int × Int)) (cl bm:Nat) (hg:GoodK id f g cl) (hgl:g.length≤200000) (L:List (Int × Int)) (hin:∀ i v,f i=some v→inW v) (hL:Canon ordI addW L) (hLg:∀ i,Sg.get ordI addW L i=(f i).getD 0) :
  Ok Tryz.prog 205 [.lit (.map (some bm)),fnG 206] [(bm,.m ksI (entsK kI vint g) cl)] fun v bs rs=>v=vBks L∧bs=[]∧rs=[]:=by
 have k1:callB Tryz.prog 206=true:=by kernel_rfl
 refine Ok.of_ex Ty.mixed Tryz.func205 rfl (by simp [Tryz.ntmps205]) (by kernel_rfl) fun F w0 I0=>?_
 simp only [↓rA,rB,buildOk,nt_is,Int.reduceEq,Int.reduceLE,Int.reduceLT,Int.reduceToNat,Nat.reduceAdd,Nat.reduceEqDiff,Nat.reduceLT,Nat.reduceLeDiff,Nat.reduceMul,Nat.reduceSub,reduceCtorEq,tbGL0,Tryz.results205]
 refine⟨⟨by simp;omega,by simp;omega⟩,?_⟩
 refine fun b2 h2=>?_;replace h2:=newb h2;try simp only [Nb] at h2
 simp only [↓rA,rB,buildOk,nt_is,Int.reduceEq,Int.reduceLE,Int.reduceLT,Int.reduceToNat,Nat.reduceAdd,Nat.reduceEqDiff,Nat.reduceLT,Nat.reduceLeDiff,Nat.reduceMul,Nat.reduceSub,reduceCtorEq,tbGL0,Tryz.results205,h2]
 refine fun ib hi=>?_;replace hi:=newb hi;try simp only [Nb] at hi
 simp only [↓rA,rB,buildOk,nt_is,Int.reduceEq,Int.reduceLE,Int.reduceLT,Int.reduceToNat,Nat.reduceAdd,Nat.reduceEqDiff,Nat.reduceLT,Nat.reduceLeDiff,Nat.reduceMul,Nat.reduceSub,reduceCtorEq,tbGL0,Tryz.results205,h2,hi]
 refine EX_whileQ Ty.mixed (by kernel_rfl) (fun x=>(leftK g x.1).length) (fun(x:List Nat × List Int) S=>GotK (fun p:Int × Int=>some p.1) g x.1 x.2∧S.rows=[]∧S.σ 0=.lit (.map (some bm))∧S.σ 1=fnG 206∧S.σ 16=ptr ib∧∃ b c rest,(x.2.length+rest.length=c∧ib ≠ b∧bm ≠ b)∧S.σ 5=slI b x.2.length c∧S.boxes=[(b,.c (x.2.map vint++rest)),(ib,.it bm cl x.1 cl),(bm,.m ksI (entsK kI vint g) cl)]) ([],[])
  ⟨_,_,_,_,List.Sublist.refl _,List.Sublist.refl _,List.Perm.swap _ _ _,List.Perm.refl _,?_⟩ (fun⟨seen,acc⟩ S ⟨hgot,gr,g0,g1,g16,b,c,rest,⟨hlc,hb1,hb2⟩,g5,gb⟩=>?_)
 ·simp only [↓rA,rB,buildOk,nt_is,Int.reduceEq,Int.reduceLE,Int.reduceLT,Int.reduceToNat,Nat.reduceAdd,Nat.reduceEqDiff,Nat.reduceLT,Nat.reduceLeDiff,Nat.reduceMul,Nat.reduceSub,reduceCtorEq,tbGL0,Tryz.results205,h2,hi]
  exact⟨GotK.start g,b2,_,_,⟨by simp,by omega,by omega⟩,rfl,rfl⟩
 ·rename_i hx0;clear hx0
  simp only at hgot hlc g5 gb ⊢
  have hacc:=hgot.len
  simp only [↓rA,rB,buildOk,nt_is,Int.reduceEq,Int.reduceLE,Int.reduceLT,Int.reduceToNat,Nat.reduceAdd,Nat.reduceEqDiff,Nat.reduceLT,Nat.reduceLeDiff,Nat.reduceMul,Nat.reduceSub,reduceCtorEq,tbGL0,Tryz.results205,g0,g1,g5,g16,gb,gr,hb1,hb2,hi]
  refine⟨fun hl=>?_,fun e he hf=>?_⟩
  ·simp only [↓rA,rB,buildOk,nt_is,Int.reduceEq,Int.reduceLE,Int.reduceLT,Int.reduceToNat,Nat.reduceAdd,Nat.reduceEqDiff,Nat.reduceLT,Nat.reduceLeDiff,Nat.reduceMul,Nat.reduceSub,reduceCtorEq,tbGL0,Tryz.results205,g0,g1,g5,g16,gb,gr,hb1,hb2,hi]
   rw [leftE_entsK] at hl
   have hdone:=hgot.done (by simpa [entsK] using hl)
   refine OkF_with [_] [_,_] (List.Perm.refl _) (sortI_ok acc rest b c (by omega)) ?_
   rintro v bs rs ⟨rfl,rfl,rfl⟩
   generalize hms:(acc.mergeSort fun x y=>decide (x≤y))=ms
   have hml:ms.length=acc.length:=by rw [← hms,List.length_mergeSort]
   rw [← hml]
   have hmem:∀ i,i ∈ ms↔(f i).isSome=true:=fun i=>by
    rw [← hms,List.mem_mergeSort,hdone.mem_iff,List.mem_filterMap,← hg.val i]
    cases hq:getK g i with
    | none =>
     simp only [Option.map_none,Option.isSome_none,Bool.false_eq_true,iff_false]
     rintro⟨q,hq',e⟩
     exact getK_none hq q hq' (Option.some.inj e).symm
    | some q =>
     simp only [Option.map_some,Option.isSome_some,iff_true]
     exact⟨q,(getK_some hq).1,by rw [← (getK_some hq).2]⟩
   have hlt:ms.Pairwise (· < ·):=by
    have h1:ms.Pairwise fun x y=>decide (x≤y)=true:=by
     rw [← hms]
     exact List.pairwise_mergeSort (by intro a b c;simp only [decide_eq_true_eq];omega) (by intro a b;simp only [Bool.or_eq_true,decide_eq_true_eq];omega) acc
    have h2:ms.Nodup:=by
     rw [← hms,(List.mergeSort_perm _ _).nodup_iff,hdone.nodup_iff]
     show (g.filterMap fun p=>some p.2.1).Nodup
     rw [List.filterMap_eq_map']
     exact List.pairwise_map.2 (hg.apart.imp fun h=>h.2)
    have h3:=h1.and h2
    exact h3.imp fun⟨a1,a2⟩=>by simp only [decide_eq_true_eq] at a1;omega
   have hLm:ordL f ms=L:=by
    obtain⟨q1,q2⟩:=ordL_spec hin hlt
    refine Canon.ext q1 hL fun i=>?_
    rw [q2,hLg]
    by_cases e:i ∈ ms
    ·rw [if_pos e]
    ·rw [if_neg e]
     have:¬ (f i).isSome=true:=fun h=>e ((hmem i).2 h)
     cases hq:f i
     ·rfl
     ·rw [hq] at this;exact absurd rfl this
   clear hgot hdone hms
   simp only [↓rA,rB,buildOk,nt_is,Int.reduceEq,Int.reduceLE,Int.reduceLT,Int.reduceToNat,Nat.reduceAdd,Nat.reduceEqDiff,Nat.reduceLT,Nat.reduceLeDiff,Nat.reduceMul,Nat.reduceSub,reduceCtorEq,tbGL0,Tryz.results205,g0,g1,g5,g16,gb,gr,hb1,hb2,hi]
   refine AWP.nilRow 7 2 117 (by simp only [↓rA,rB,buildOk,nt_is,Int.reduceEq,Int.reduceLE,Int.reduceLT,Int.reduceToNat,Nat.reduceAdd,Nat.reduceEqDiff,Nat.reduceLT,Nat.reduceLeDiff,Nat.reduceMul,Nat.reduceSub,reduceCtorEq,tbGL0,Tryz.results205]) (by decide) ?_
   refine EX_forS Ty.mixed (by kernel_rfl) ms.length (fun i S=>(∃ y,S.rows=[⟨y,2,117⟩]∧S.σ 7=.list (some y) 2 ((ordL f (ms.take i)).map cBk))∧S.boxes=[(b,.c (ms.map vint++rest)),(ib,.it bm cl seen cl),(bm,.m ksI (entsK kI vint g) cl)]∧S.σ 0=.lit (.map (some bm))∧S.σ 1=fnG 206∧S.σ 27=slI b ms.length c∧S.σ 28=vint ms.length∧S.σ 29=vint i) ⟨_,_,List.Sublist.refl _,List.Sublist.refl _,?_⟩ (fun i S hi' ⟨⟨y,gr,g7⟩,gb,g0,g1,g27,g28,g29⟩=>?_) (fun S ⟨⟨y,gr,g7⟩,gb,g0,g1,g27,g28,g29⟩=>?_)
   ·simp only [↓rA,rB,buildOk,nt_is,Int.reduceEq,Int.reduceLE,Int.reduceLT,Int.reduceToNat,Nat.reduceAdd,Nat.reduceEqDiff,Nat.reduceLT,Nat.reduceLeDiff,Nat.reduceMul,Nat.reduceSub,reduceCtorEq,tbGL0,Tryz.results205,g0,g1,g5,g16,gb,gr,hb1,hb2,hi]
    exact⟨⟨nilv,rfl,rfl⟩,by rw [hml],by rw [hml]⟩
   ·have hsn:=ordL_snoc f (ms.take i) ms[i]
    rw [← List.take_succ_eq_append_getElem hi'] at hsn
    have hln:=ordL_len f (ms.take i)
    have c1:List.drop (i * 1) (ms.map vint++rest)=vint ms[i]::List.drop (i+1) (ms.map vint++rest):=by rw [Nat.mul_one,List.drop_eq_getElem_cons (by simp;omega)];simp [hi']
    generalize hk:ms[i]=k at hsn c1
    have hfm:=findM_entsK (cV:=vint) keq_I k g
    have hv:=hg.val k
    have w1:=wrap_succ hi' (by omega)
    simp only [↓rA,rB,buildOk,nt_is,Int.reduceEq,Int.reduceLE,Int.reduceLT,Int.reduceToNat,Nat.reduceAdd,Nat.reduceEqDiff,Nat.reduceLT,Nat.reduceLeDiff,Nat.reduceMul,Nat.reduceSub,reduceCtorEq,tbGL0,Tryz.results205,gb,gr,g0,g1,g7,g27,g28,g29,hb1,hb2,hi,Int.ofNat_lt,hi',k1,c1,w1]
    rw [hfm]
    cases hgk:getK g k with
    | none =>
     rw [hgk] at hv
     simp only [Option.map_none] at hv
     rw [← hv] at hsn
     simp only [↓rA,rB,buildOk,nt_is,Int.reduceEq,Int.reduceLE,Int.reduceLT,Int.reduceToNat,Nat.reduceAdd,Nat.reduceEqDiff,Nat.reduceLT,Nat.reduceLeDiff,Nat.reduceMul,Nat.reduceSub,reduceCtorEq,tbGL0,Tryz.results205,gb,gr,g0,g1,g7,g27,g28,g29,hb1,hb2,hi,Int.ofNat_lt,hi',k1,c1,w1]
     refine OkF_of _ (counted1_ok k 0) ?_
     simp only [↓rA,rB,buildOk,nt_is,Int.reduceEq,Int.reduceLE,Int.reduceLT,Int.reduceToNat,Nat.reduceAdd,Nat.reduceEqDiff,Nat.reduceLT,Nat.reduceLeDiff,Nat.reduceMul,Nat.reduceSub,reduceCtorEq,tbGL0,Tryz.results205,gb,gr,g0,g1,g7,g27,g28,g29,hb1,hb2,hi,Int.ofNat_lt,hi',k1,c1,w1]
     refine fun b5 h5=>?_;replace h5:=newb h5;try simp only [Nb] at h5
     simp only [↓rA,rB,buildOk,nt_is,Int.reduceEq,Int.reduceLE,Int.reduceLT,Int.reduceToNat,Nat.reduceAdd,Nat.reduceEqDiff,Nat.reduceLT,Nat.reduceLeDiff,Nat.reduceMul,Nat.reduceSub,reduceCtorEq,tbGL0,Tryz.results205,gb,gr,g0,g1,g7,g27,g28,g29,hb1,hb2,hi,h5,w1]
     simp only [Option.getD_none,if_true,List.append_nil] at hsn
     refine⟨[_,_,_],_,List.Sublist.cons _ (List.Sublist.refl _),List.Sublist.refl _,⟨y,rfl,?_⟩,rfl,?_⟩
     ·rw [hsn]
      simp only [↓rA,rB,buildOk,nt_is,Int.reduceEq,Int.reduceLE,Int.reduceLT,Int.reduceToNat,Nat.reduceAdd,Nat.reduceEqDiff,Nat.reduceLT,Nat.reduceLeDiff,Nat.reduceMul,Nat.reduceSub,reduceCtorEq,tbGL0,Tryz.results205,g7]
     ·simp only [↓rA,rB,buildOk,nt_is,Int.reduceEq,Int.reduceLE,Int.reduceLT,Int.reduceToNat,Nat.reduceAdd,Nat.reduceEqDiff,Nat.reduceLT,Nat.reduceLeDiff,Nat.reduceMul,Nat.reduceSub,reduceCtorEq,tbGL0,Tryz.results205,g0,g1,g27,g28,g29]
    | some p =>
     rw [hgk] at hv
     simp only [Option.map_some] at hv
     rw [← hv] at hsn
     simp only [↓rA,rB,buildOk,nt_is,Int.reduceEq,Int.reduceLE,Int.reduceLT,Int.reduceToNat,Nat.reduceAdd,Nat.reduceEqDiff,Nat.reduceLT,Nat.reduceLeDiff,Nat.reduceMul,Nat.reduceSub,reduceCtorEq,tbGL0,Tryz.results205,gb,gr,g0,g1,g7,g27,g28,g29,hb1,hb2,hi,Int.ofNat_lt,hi',k1,c1,w1]
     refine OkF_of _ (counted1_ok k p.2.2) ?_
     simp only [↓rA,rB,buildOk,nt_is,Int.reduceEq,Int.reduceLE,Int.reduceLT,Int.reduceToNat,Nat.reduceAdd,Nat.reduceEqDiff,Nat.reduceLT,Nat.reduceLeDiff,Nat.reduceMul,Nat.reduceSub,reduceCtorEq,tbGL0,Tryz.results205,gb,gr,g0,g1,g7,g27,g28,g29,hb1,hb2,hi,Int.ofNat_lt,hi',k1,c1,w1]
     refine fun b5 h5=>?_;replace h5:=newb h5;try simp only [Nb] at h5
     by_cases h0:p.2.2=0
     ·simp only [Option.getD_some,id,h0,if_true,List.append_nil] at hsn
      simp only [↓rA,rB,buildOk,nt_is,Int.reduceEq,Int.reduceLE,Int.reduceLT,Int.reduceToNat,Nat.reduceAdd,Nat.reduceEqDiff,Nat.reduceLT,Nat.reduceLeDiff,Nat.reduceMul,Nat.reduceSub,reduceCtorEq,tbGL0,Tryz.results205,gb,gr,g0,g1,g7,g27,g28,g29,hb1,hb2,hi,h5,h0,w1]
      refine⟨[_,_,_],_,List.Sublist.cons _ (List.Sublist.refl _),List.Sublist.refl _,⟨y,rfl,?_⟩,rfl,?_⟩
      ·rw [hsn]
       simp only [↓rA,rB,buildOk,nt_is,Int.reduceEq,Int.reduceLE,Int.reduceLT,Int.reduceToNat,Nat.reduceAdd,Nat.reduceEqDiff,Nat.reduceLT,Nat.reduceLeDiff,Nat.reduceMul,Nat.reduceSub,reduceCtorEq,tbGL0,Tryz.results205,g7]
      ·simp only [↓rA,rB,buildOk,nt_is,Int.reduceEq,Int.reduceLE,Int.reduceLT,Int.reduceToNat,Nat.reduceAdd,Nat.reduceEqDiff,Nat.reduceLT,Nat.reduceLeDiff,Nat.reduceMul,Nat.reduceSub,reduceCtorEq,tbGL0,Tryz.results205,g0,g1,g27,g28,g29]
     ·simp only [Option.getD_some,id,h0,if_false] at hsn
      have hln2:(ordL f (List.take i ms)).length≤200000:=by rw [List.length_take] at hln;omega
      simp only [↓rA,rB,buildOk,nt_is,Int.reduceEq,Int.reduceLE,Int.reduceLT,Int.reduceToNat,Nat.reduceAdd,Nat.reduceEqDiff,Nat.reduceLT,Nat.reduceLeDiff,Nat.reduceMul,Nat.reduceSub,reduceCtorEq,tbGL0,Tryz.results205,gb,gr,g0,g1,g7,g27,g28,g29,hb1,hb2,hi,h5,h0,w1]
      refine fun y1=>takeRF_2 ?_
      simp only [↓rA,rB,buildOk,nt_is,Int.reduceEq,Int.reduceLE,Int.reduceLT,Int.reduceToNat,Nat.reduceAdd,Nat.reduceEqDiff,Nat.reduceLT,Nat.reduceLeDiff,Nat.reduceMul,Nat.reduceSub,reduceCtorEq,tbGL0,Tryz.results205,gb,gr,g0,g1,g7,g27,g28,g29,hb1,hb2,hi,h5,h0,w1,List.length_map]
      refine⟨by omega,fun y2=>?_⟩
      refine⟨[_,_,_],[⟨y2,2,117⟩],List.Sublist.cons _ (List.Sublist.refl _),List.Sublist.cons_cons _ (List.nil_sublist _),⟨y2,rfl,?_⟩,rfl,?_⟩
      ·rw [hsn,List.map_append]
       simp only [↓rA,rB,buildOk,nt_is,Int.reduceEq,Int.reduceLE,Int.reduceLT,Int.reduceToNat,Nat.reduceAdd,Nat.reduceEqDiff,Nat.reduceLT,Nat.reduceLeDiff,Nat.reduceMul,Nat.reduceSub,reduceCtorEq,tbGL0,Tryz.results205,g7]
      ·simp only [↓rA,rB,buildOk,nt_is,Int.reduceEq,Int.reduceLE,Int.reduceLT,Int.reduceToNat,Nat.reduceAdd,Nat.reduceEqDiff,Nat.reduceLT,Nat.reduceLeDiff,Nat.reduceMul,Nat.reduceSub,reduceCtorEq,tbGL0,Tryz.results205,g0,g1,g27,g28,g29]
   ·rw [List.take_length,hLm] at g7
    simp only [↓rA,rB,buildOk,nt_is,Int.reduceEq,Int.reduceLE,Int.reduceLT,Int.reduceToNat,Nat.reduceAdd,Nat.reduceEqDiff,Nat.reduceLT,Nat.reduceLeDiff,Nat.reduceMul,Nat.reduceSub,reduceCtorEq,tbGL0,Tryz.results205,gb,gr,g0,g1,g7,g27,g28,g29,hb1,hb2,hi,Int.ofNat_lt,Nat.lt_irrefl]
    exact ret_le (Le.list _ _ _)
  ·rw [leftE_entsK] at he
   obtain⟨p,hp,rfl⟩:=List.mem_map.1 he
   have hp0:=(List.mem_filter.1 hp).1
   have hst:=hgot.step hg.apart hp
   have hmu:=leftK_less hg.apart hp
   have hlast:(seen++[p.1]).getLast? = some p.1:=by simp
   simp only at hf
   simp only [↓rA,rB,buildOk,nt_is,Int.reduceEq,Int.reduceLE,Int.reduceLT,Int.reduceToNat,Nat.reduceAdd,Nat.reduceEqDiff,Nat.reduceLT,Nat.reduceLeDiff,Nat.reduceMul,Nat.reduceSub,reduceCtorEq,tbGL0,Tryz.results205,g0,g1,g5,g16,gb,gr,hb1,hb2,hi,hlast,hf]
   refine fun y=>Or2.r ?_
   simp only [↓rA,rB,buildOk,nt_is,Int.reduceEq,Int.reduceLE,Int.reduceLT,Int.reduceToNat,Nat.reduceAdd,Nat.reduceEqDiff,Nat.reduceLT,Nat.reduceLeDiff,Nat.reduceMul,Nat.reduceSub,reduceCtorEq,tbGL0,Tryz.results205,g0,g1,g5,g16,gb,gr,hb1,hb2,hi,hlast,hf,remB,List.length_map]
   refine⟨⟨by simp only [List.length_append,List.length_map];omega,by omega,by omega⟩,fun b' c' hb' hc'=>?_⟩
   replace hb':=newb hb'
   try simp only [Nb] at hb'
   simp only [↓rA,rB,buildOk,nt_is,Int.reduceEq,Int.reduceLE,Int.reduceLT,Int.reduceToNat,Nat.reduceAdd,Nat.reduceEqDiff,Nat.reduceLT,Nat.reduceLeDiff,Nat.reduceMul,Nat.reduceSub,reduceCtorEq,tbGL0,Tryz.results205,g0,g1,g5,g16,gb,gr,hb1,hb2,hi,hlast,hf,remB,List.length_map]
   refine⟨(seen++[p.1],acc++[p.2.1]),hmu,[_,_,_],[],[_,_,_],[],List.Sublist.refl _,List.nil_sublist _,List.Perm.refl _,List.Perm.refl _,hst,rfl,?_⟩
   simp only [↓rA,rB,buildOk,nt_is,Int.reduceEq,Int.reduceLE,Int.reduceLT,Int.reduceToNat,Nat.reduceAdd,Nat.reduceEqDiff,Nat.reduceLT,Nat.reduceLeDiff,Nat.reduceMul,Nat.reduceSub,reduceCtorEq,tbGL0,Tryz.results205,g0,g1,g16]
   refine⟨b',c',anys (c' - (acc.length+1)),⟨?_,hb'.1.1,hb'.2.1.1⟩,by rw [List.length_append];rfl,?_⟩
   ·simp only [List.length_append,List.length_cons,List.length_nil,anys_length];omega
   ·rw [Nat.mul_one,List.take_left' (by rw [List.length_map]),List.map_append,Nat.mul_one]
    simp
end Go.Proofs.YtjdggbanifineaaGreat
set_option linter.unusedSimpArgs false
set_option maxRecDepth 100000
set_option linter.defProp false
namespace Go.Ar
open Go.VL Go.Sg Go.Lo
theorem bits_half {n:Nat} (h:1≤n):bitsN n=1+bitsN (n / 2):=by
 unfold bitsN
 rw [if_neg (by omega),Nat.log2_def]
 by_cases h2:n ≥ 2
 ·rw [if_pos h2,if_neg (by omega)];omega
 ·obtain rfl:n=1:=by omega
  rfl
theorem bits_shift:∀ {k n:Nat},2 ^ k≤n→bitsN n=k+bitsN (n / 2 ^ k)
 | 0,n,_=>by simp
 | k+1,n,h=>by
  have h1:2 ^ k≤n:=Nat.le_trans (Nat.pow_le_pow_right (by omega) (by omega)) h
  have h2:1≤n / 2 ^ k:=(Nat.le_div_iff_mul_le (Nat.two_pow_pos k)).2 (by omega)
  rw [bits_shift h1,bits_half h2,Nat.div_div_eq_div_mul,Nat.pow_succ];omega
theorem bits_lt {n:Nat} (h:1≤n):n < 2 ^ bitsN n∧2 ^ (bitsN n - 1)≤n:=by
 unfold bitsN
 rw [if_neg (by omega),Nat.add_sub_cancel]
 exact⟨Nat.lt_log2_self,Nat.log2_self_le (by omega)⟩
theorem bits_le {n k:Nat} (h:n < 2 ^ k):bitsN n≤k:=by
 rcases Nat.eq_zero_or_pos n with e | e
 ·subst e;exact Nat.zero_le _
 ·have:=(bits_lt e).2
  have h3:2 ^ (bitsN n - 1) < 2 ^ k:=Nat.lt_of_le_of_lt this h
  have:=(Nat.pow_lt_pow_iff_right (by omega:1 < 2)).1 h3
  omega
theorem shr_small (n:Nat):n / 2 ^ (bitsN n - 6) < 64:=by
 rcases Nat.eq_zero_or_pos n with e | e
 ·subst e;decide
 ·have h1:=(bits_lt e).1
  rw [Nat.div_lt_iff_lt_mul (Nat.two_pow_pos _)]
  refine Nat.lt_of_lt_of_le h1 ?_
  rw [show (64:Nat)=2 ^ 6 from rfl,← Nat.pow_add]
  exact Nat.pow_le_pow_right (by omega) (by omega)
theorem sz_fin (T:ByteArray) (hT:decide (256≤T.size)=true) (z:Nat) (hz:z < 256):(z:Int) < (T.size:Int):=by
 have:=of_decide_eq_true hT
 omega
theorem tab_fin (T:List UInt8) (hT:((List.range 256).all fun z=>decide ((T.getD z 0).toNat=bitsN z))=true) (z a:Nat) (hz:z < 256) (ha:a≤56):V.lit (.int .i64 (IntKind.i64.wrap ((a:Int)+IntKind.i64.wrap ((T.getD z 0).toNat:Int))))=.lit (.int .i64 ((a+bitsN z:Nat):Int)):=by
 have h:=of_decide_eq_true (List.all_eq_true.1 hT z (List.mem_range.2 hz))
 rw [h]
 have:bitsN z≤8:=bits_le (by omega)
 rw [wrap_id (n:=(bitsN z:Int)) (by omega) (by omega),wrap_id (by omega) (by omega)]
 rfl
theorem cntF_in (l:List (Int × Int)) (i v:Int) (h:cntF l i=some v):inW v:=by
 have main:∀ (m:List (Int × Int)) (f:Int→Option Int),(∀ i v,f i=some v→inW v)→∀ i v,m.foldl cntS f i=some v→inW v:=by
  intro m
  induction m with
  | nil=>exact fun f h=>h
  | cons p m ih =>
   intro f h
   refine ih _ fun i v hv=>?_
   unfold cntS updF at hv
   split at hv
   ·cases hv;exact wrap_in _
   ·exact h i v hv
 exact main l (fun _=>none) (fun _ _ h=>by cases h) i v h
end Go.Ar
namespace Go.Proofs.YtjdggbanifineaaGreat
open Go.VL Go.Ar Go.Sg Go.Lo Go.Proofs.YtjdggbanifineaaGreat Go.Proofs.YtjdggbanifineaaGreat.Arr
def tbGW0:=(aI (aI Ty.t3 Ty.t4) (aI Ty.t49 (aI Ty.t5 Ty.t9)))
set_option maxHeartbeats 2000000 in
theorem len64_ok (x:Int) (hx:0≤x) (hx':x < 18446744073709551616):OkP Tryz.prog 154 [vu x] (vint (bitsN x.toNat)):=by
 refine Ok.of_ex Ty.mixed Tryz.func154 rfl (by simp [Tryz.ntmps154]) (by kernel_rfl) fun F w0 I0=>?_
 simp only [↓EX_end,↓EX_skip,↓EX_label,↓EX_block,↓EX_blk,↓EX_scope,↓EX_sc,↓EX_stop,↓EX_exit,↓EX_ret,↓EX_cond,↓EX_region,↓EX_draw,↓EX_loopleaf,↓EX_rangeleaf,↓XI_end,↓XI_code,↓XI_ops,↓XI_stop,↓XI_sc,↓XI_same,↓XI_other,↓EX_ops_nil,↓EX_plain,↓EX_guard,↓EX_dplain,↓EX_dguard,↓EX_gsoft,↓EX_gsoftg,↓EX_g_alloc,↓EX_g_box,↓EX_g_store,↓EX_g_append,↓EX_g_copy,↓EX_g_call,↓callR_func,↓EX_x_call,↓EX_x_buildSlice,↓callX_func,↓callX_yield,↓EX_h_makeMap,↓EX_h_lookup,↓EX_h_mapUpdate,↓ST_makeMap,↓ST_lookup,↓ST_mapUpdate,↓ST_insert,↓ST_makeInterface,↓ST_invoke,↓ST_mapEntry,↓ST_entryStore,↓ST_range,↓ST_next,↓ST_entry,↓makeMapK_eq,↓makeMapK_eqr,↓lookK_eq,↓lookD_nil,↓lookD_nil',↓lookD_box,↓lookD_box',↓updK_eq,↓updD_box,↓ifaceK_eq,↓invK_iface,↓mentK_eq,↓mentD_box,↓estD_box,↓rangeK_eq,↓rangeD_box,↓nextK_it,↓entryK_it,↓ST_move,↓ST_assign,↓ST_pick,↓ST_load,↓ST_fieldAddr,↓ST_field,↓ST_indexAddr,↓ST_index,↓ST_binOp,↓ST_unOp,↓ST_convert,↓ST_dconvert,↓ST_gconvert,↓ST_extract,↓ST_slice,↓ST_build,↓ST_nil,↓ST_len,↓ST_tlen,↓ST_glen,↓ST_max,↓ST_min,↓ST_call,↓ST_dcall,↓ST_gcall,↓ST_makeFunc,↓ST_alloc,↓ST_box,↓ST_store,↓ST_buildSlice,↓ST_dbuildSlice,↓ST_append,↓ST_copy,↓ST_clear,↓ST_makeSlice,↓ST_cap,↓EX_h_alloc,↓EX_h_box,↓EX_h_store,↓EX_h_append,↓EX_h_makeSlice,↓EX_h_copy,↓loadK_eq,↓partK_eq,↓fieldAddrK_eq,↓zeroP_ptr,↓fieldK_eq,↓idxAddrD_slice,↓idxAddrD_array,↓idxAddrK_eq,↓idxD_string,↓idxD_array,↓idxK_eq,↓convD_int,↓convD_string,↓convK_eq,↓convE_int,↓convE_string,↓convE_bytes,↓convE_str,↓strB_lit,↓convB_eq,↓bytesD_nil,↓bytesD_box,↓bytesD_list,↓lenD_string,↓lenD_slice,↓lenK_eq,↓lenE_map,↓lenE_string,↓lenE_slice,↓lenQ_eq,↓lenM_box,↓sliceD_string,↓sliceD_slice,↓sliceD_slice3,↓sliceK_eq,↓buildK_eq,↓funcK_eq,↓loadD_agg,↓loadD_one,↓partD_agg,↓partD_one,↓allocK_eq,↓boxK_eq,↓storeK_eq,↓buildSliceK_eq,↓buildAny_zero,↓buildAny_cons,↓buildSliceD_eq,↓appendK_eq,↓appSK_eq,↓capK_eq,↓srcK_eq,↓appMK_eq,↓appAK_eq,↓copyK_eq,↓clearK_eq,↓AllV_eq,↓retQ_ret,↓retQ_normal,↓retK,↓resV_nil,↓resV_tmp,↓resV_cell,getN_same,getN_other,natPos,td1,td2,td3,keep_σ,keep_boxes,keep_rows,nilRow_same,nilRow_ne,nilRow_boxes,nilRow_rows,onVal_eq,onB_t,onB_f,nat0,dropB_σ,dropB_boxes,dropB_rows,onMapT_some,onM_some,onI_some,onFind_some,onFind_none,onEnt_some,onEnt_none,mapOf_map,getM_same,getM_other,getI_same,getI_other,setX_same,setX_other,valV_agg,valV_str,valV_int,keyV_lit,keyV_agg,keyS_agg,keyS_str,keyS_int,addB_σ,addB_boxes,addB_rows,onMode_0,onMode_1,onMode_2,onMode_3,onMode_4,modeOf_nil,modeOf_cons,ncall,Todo_eq,put_eq,put_ne,put_none,put_boxes,put_rows,addBox_σ,addBox_boxes,addBox_rows,addRow_σ,addRow_boxes,addRow_rows,setBoxes_σ,setBoxes_boxes,setBoxes_rows,setRows_σ,setRows_boxes,setRows_rows,S0_σ,S0_boxes,S0_rows,ev_tmp,ev_const,ev_global,gvL_nil,gvL_cons,globs_is,ev_func,guardV_eq,getB_same,getB_other,setB_same,setB_other,packV,soft_move,soft_assign,soft_pick,soft_load,soft_fieldAddr,soft_field,soft_indexAddr,soft_index,soft_binOp,soft_unOp,soft_convert,soft_extract,soft_slice,soft_build,soft_nil,soft_buildSlice,soft_makeFunc,soft_callv,soft_len,soft_cap,soft_max,soft_min,onSome_some,onInt_int,onStr_str,onAgg_agg,onTup_tup,onHead_cons,onBool_bool,onGuard_tt,onGuard_ft,onGuard_tf,onGuard_ff,onGuard_skip,onCond_t,onCond_f,onL_list,onL_nil,onS_list,onS_nil,onS_box,capD_slice,bnd_none,bnd_int,shiftP_ref,shiftP_ptr,atP_ref,atP_ptr,posK_succ,posK_zero,bxOf_f,buildOk,binK_int,binK_str,binK_bool,boolOf_bool,binK_nil,binK_lnil,notNil_some,notNil_none,nilQ_eq,binK_agg,EqK_eql',EqK_neq',eqTB,litB,litV,fitL,fit,veqL,veq,unK_lit,nilK_ptr,nilK_ref,nilK_func,maxK_max,maxK_min,onPtr_ptr,sliceOf_slice,appD_nil,appD_own,srcD_list,srcD_nil,srcD_box,srcD_str,appMD_box,appAD_nil,appAD_box,copyD_nil,copyD_box,clrD_nil,clrD_box,makeSliceK_int,appendAny_own,appendAny_ownN,appendAny_ownS,appendAny_nil,appendAny_zeros,appendAny_list,appendAny_slice,appendAny_str,If2_t,If2_f,takeRF_single,callE_func,callE_yield,callK_func,And2_true,sbin,sun,nilB,cellsV,oneB,okC,vals,fillV,partsE,nt_is,Int.le_refl,Nat.sub_zero,Nat.zero_le,Nat.le_refl,eq_self,and_true,true_and,and_self,if_true,if_false,false_and,and_false,or_false,false_or,or_true,true_or,not_true_eq_false,not_false_eq_true,decide_true,decide_false,decide_eq_true_eq,Option.some.injEq,reduceCtorEq,Bool.false_eq_true,ne_eq,List.getD_cons_zero,List.getD_cons_succ,List.getD_nil,List.getElem?_cons_zero,List.getElem?_cons_succ,List.getElem?_nil,Option.bind_some,Option.bind_none,Option.map_some,Option.map_none,Option.isSome_some,Option.isSome_none,Option.isNone_some,Option.isNone_none,List.map_cons,List.map_nil,List.take_succ_cons,List.take_zero,List.take_nil,List.drop_succ_cons,List.drop_zero,List.drop_nil,List.length_cons,List.length_nil,List.cons_append,List.nil_append,List.append_nil,List.filter_nil,List.filter_cons,List.any_nil,List.any_cons,List.all_nil,List.all_cons,List.toList_toArray,Nat.add_zero,Nat.zero_add,Bool.not_true,Bool.not_false,Bool.true_and,Bool.and_true,Bool.or_false,Bool.false_or,Bool.and_false,Bool.false_and,Bool.or_true,Bool.true_or,implies_true,Nat.reduceLT,Nat.reduceLeDiff,Nat.reduceEqDiff,Nat.reduceAdd,Nat.reduceSub,Nat.reduceMul,Int.reduceToNat,Int.reduceLE,Int.reduceLT,Int.reduceEq,Int.toNat_natCast,Int.natCast_nonneg,tbGW0,Tryz.results154]
 rw [EX_seq]
 simp only [↓EX_end,↓EX_skip,↓EX_label,↓EX_block,↓EX_blk,↓EX_scope,↓EX_sc,↓EX_stop,↓EX_exit,↓EX_ret,↓EX_cond,↓EX_region,↓EX_draw,↓EX_loopleaf,↓EX_rangeleaf,↓XI_end,↓XI_code,↓XI_ops,↓XI_stop,↓XI_sc,↓XI_same,↓XI_other,↓EX_ops_nil,↓EX_plain,↓EX_guard,↓EX_dplain,↓EX_dguard,↓EX_gsoft,↓EX_gsoftg,↓EX_g_alloc,↓EX_g_box,↓EX_g_store,↓EX_g_append,↓EX_g_copy,↓EX_g_call,↓callR_func,↓EX_x_call,↓EX_x_buildSlice,↓callX_func,↓callX_yield,↓EX_h_makeMap,↓EX_h_lookup,↓EX_h_mapUpdate,↓ST_makeMap,↓ST_lookup,↓ST_mapUpdate,↓ST_insert,↓ST_makeInterface,↓ST_invoke,↓ST_mapEntry,↓ST_entryStore,↓ST_range,↓ST_next,↓ST_entry,↓makeMapK_eq,↓makeMapK_eqr,↓lookK_eq,↓lookD_nil,↓lookD_nil',↓lookD_box,↓lookD_box',↓updK_eq,↓updD_box,↓ifaceK_eq,↓invK_iface,↓mentK_eq,↓mentD_box,↓estD_box,↓rangeK_eq,↓rangeD_box,↓nextK_it,↓entryK_it,↓ST_move,↓ST_assign,↓ST_pick,↓ST_load,↓ST_fieldAddr,↓ST_field,↓ST_indexAddr,↓ST_index,↓ST_binOp,↓ST_unOp,↓ST_convert,↓ST_dconvert,↓ST_gconvert,↓ST_extract,↓ST_slice,↓ST_build,↓ST_nil,↓ST_len,↓ST_tlen,↓ST_glen,↓ST_max,↓ST_min,↓ST_call,↓ST_dcall,↓ST_gcall,↓ST_makeFunc,↓ST_alloc,↓ST_box,↓ST_store,↓ST_buildSlice,↓ST_dbuildSlice,↓ST_append,↓ST_copy,↓ST_clear,↓ST_makeSlice,↓ST_cap,↓EX_h_alloc,↓EX_h_box,↓EX_h_store,↓EX_h_append,↓EX_h_makeSlice,↓EX_h_copy,↓loadK_eq,↓partK_eq,↓fieldAddrK_eq,↓zeroP_ptr,↓fieldK_eq,↓idxAddrD_slice,↓idxAddrD_array,↓idxAddrK_eq,↓idxD_string,↓idxD_array,↓idxK_eq,↓convD_int,↓convD_string,↓convK_eq,↓convE_int,↓convE_string,↓convE_bytes,↓convE_str,↓strB_lit,↓convB_eq,↓bytesD_nil,↓bytesD_box,↓bytesD_list,↓lenD_string,↓lenD_slice,↓lenK_eq,↓lenE_map,↓lenE_string,↓lenE_slice,↓lenQ_eq,↓lenM_box,↓sliceD_string,↓sliceD_slice,↓sliceD_slice3,↓sliceK_eq,↓buildK_eq,↓funcK_eq,↓loadD_agg,↓loadD_one,↓partD_agg,↓partD_one,↓allocK_eq,↓boxK_eq,↓storeK_eq,↓buildSliceK_eq,↓buildAny_zero,↓buildAny_cons,↓buildSliceD_eq,↓appendK_eq,↓appSK_eq,↓capK_eq,↓srcK_eq,↓appMK_eq,↓appAK_eq,↓copyK_eq,↓clearK_eq,↓AllV_eq,↓retQ_ret,↓retQ_normal,↓retK,↓resV_nil,↓resV_tmp,↓resV_cell,getN_same,getN_other,natPos,td1,td2,td3,keep_σ,keep_boxes,keep_rows,nilRow_same,nilRow_ne,nilRow_boxes,nilRow_rows,onVal_eq,onB_t,onB_f,nat0,dropB_σ,dropB_boxes,dropB_rows,onMapT_some,onM_some,onI_some,onFind_some,onFind_none,onEnt_some,onEnt_none,mapOf_map,getM_same,getM_other,getI_same,getI_other,setX_same,setX_other,valV_agg,valV_str,valV_int,keyV_lit,keyV_agg,keyS_agg,keyS_str,keyS_int,addB_σ,addB_boxes,addB_rows,onMode_0,onMode_1,onMode_2,onMode_3,onMode_4,modeOf_nil,modeOf_cons,ncall,Todo_eq,put_eq,put_ne,put_none,put_boxes,put_rows,addBox_σ,addBox_boxes,addBox_rows,addRow_σ,addRow_boxes,addRow_rows,setBoxes_σ,setBoxes_boxes,setBoxes_rows,setRows_σ,setRows_boxes,setRows_rows,S0_σ,S0_boxes,S0_rows,ev_tmp,ev_const,ev_global,gvL_nil,gvL_cons,globs_is,ev_func,guardV_eq,getB_same,getB_other,setB_same,setB_other,packV,soft_move,soft_assign,soft_pick,soft_load,soft_fieldAddr,soft_field,soft_indexAddr,soft_index,soft_binOp,soft_unOp,soft_convert,soft_extract,soft_slice,soft_build,soft_nil,soft_buildSlice,soft_makeFunc,soft_callv,soft_len,soft_cap,soft_max,soft_min,onSome_some,onInt_int,onStr_str,onAgg_agg,onTup_tup,onHead_cons,onBool_bool,onGuard_tt,onGuard_ft,onGuard_tf,onGuard_ff,onGuard_skip,onCond_t,onCond_f,onL_list,onL_nil,onS_list,onS_nil,onS_box,capD_slice,bnd_none,bnd_int,shiftP_ref,shiftP_ptr,atP_ref,atP_ptr,posK_succ,posK_zero,bxOf_f,buildOk,binK_int,binK_str,binK_bool,boolOf_bool,binK_nil,binK_lnil,notNil_some,notNil_none,nilQ_eq,binK_agg,EqK_eql',EqK_neq',eqTB,litB,litV,fitL,fit,veqL,veq,unK_lit,nilK_ptr,nilK_ref,nilK_func,maxK_max,maxK_min,onPtr_ptr,sliceOf_slice,appD_nil,appD_own,srcD_list,srcD_nil,srcD_box,srcD_str,appMD_box,appAD_nil,appAD_box,copyD_nil,copyD_box,clrD_nil,clrD_box,makeSliceK_int,appendAny_own,appendAny_ownN,appendAny_ownS,appendAny_nil,appendAny_zeros,appendAny_list,appendAny_slice,appendAny_str,If2_t,If2_f,takeRF_single,callE_func,callE_yield,callK_func,And2_true,sbin,sun,nilB,cellsV,oneB,okC,vals,fillV,partsE,nt_is,Int.le_refl,Nat.sub_zero,Nat.zero_le,Nat.le_refl,eq_self,and_true,true_and,and_self,if_true,if_false,false_and,and_false,or_false,false_or,or_true,true_or,not_true_eq_false,not_false_eq_true,decide_true,decide_false,decide_eq_true_eq,Option.some.injEq,reduceCtorEq,Bool.false_eq_true,ne_eq,List.getD_cons_zero,List.getD_cons_succ,List.getD_nil,List.getElem?_cons_zero,List.getElem?_cons_succ,List.getElem?_nil,Option.bind_some,Option.bind_none,Option.map_some,Option.map_none,Option.isSome_some,Option.isSome_none,Option.isNone_some,Option.isNone_none,List.map_cons,List.map_nil,List.take_succ_cons,List.take_zero,List.take_nil,List.drop_succ_cons,List.drop_zero,List.drop_nil,List.length_cons,List.length_nil,List.cons_append,List.nil_append,List.append_nil,List.filter_nil,List.filter_cons,List.any_nil,List.any_cons,List.all_nil,List.all_cons,List.toList_toArray,Nat.add_zero,Nat.zero_add,Bool.not_true,Bool.not_false,Bool.true_and,Bool.and_true,Bool.or_false,Bool.false_or,Bool.and_false,Bool.false_and,Bool.or_true,Bool.true_or,implies_true,Nat.reduceLT,Nat.reduceLeDiff,Nat.reduceEqDiff,Nat.reduceAdd,Nat.reduceSub,Nat.reduceMul,Int.reduceToNat,Int.reduceLE,Int.reduceLT,Int.reduceEq,Int.toNat_natCast,Int.natCast_nonneg,tbGW0,Tryz.results154]
 rw [EX_seq]
 refine EX_cut (fun S=>∃ y a:Nat,(y < 4294967296∧a≤32∧bitsN x.toNat=a+bitsN y)∧S.rows=[]∧S.boxes=[]∧S.σ 0=vu y∧S.σ 2=vint a) ?_ ?_
 ·by_cases h:(4294967296:Int)≤x
  ·simp only [↓rA,rB,buildOk,nt_is,Int.reduceEq,Int.reduceLE,Int.reduceLT,Int.reduceToNat,Nat.reduceAdd,Nat.reduceEqDiff,Nat.reduceLT,Nat.reduceLeDiff,Nat.reduceMul,Nat.reduceSub,reduceCtorEq,tbGW0,Tryz.results154,h]
   refine⟨x.toNat / 2 ^ 32,32,⟨by omega,by omega,bits_shift (by omega)⟩,?_,rfl⟩
   congr 3
   rw [show min 32 IntKind.u64.bits=32 from rfl,Int.fdiv_eq_ediv_of_nonneg _ (by decide)]
   omega
  ·simp only [↓rA,rB,buildOk,nt_is,Int.reduceEq,Int.reduceLE,Int.reduceLT,Int.reduceToNat,Nat.reduceAdd,Nat.reduceEqDiff,Nat.reduceLT,Nat.reduceLeDiff,Nat.reduceMul,Nat.reduceSub,reduceCtorEq,tbGW0,Tryz.results154,h]
   exact⟨x.toNat,0,⟨by omega,by omega,by rw [Nat.zero_add]⟩,by rw [Int.toNat_of_nonneg hx],rfl⟩
 rintro S ⟨y,a,⟨hy,ha,e⟩,gr,gb,g0,g2⟩
 rw [e]
 clear e
 rw [EX_seq]
 refine EX_cut (fun S=>∃ y' a':Nat,(y' < 65536∧a'≤48∧a+bitsN y=a'+bitsN y')∧S.rows=[]∧S.boxes=[]∧S.σ 0=vu y'∧S.σ 2=vint a') ?_ ?_
 ·by_cases h:(65536:Int)≤y
  ·have w1:IntKind.i64.wrap ((a:Int)+16)=((a+16:Nat):Int):=by rw [wrap_id (by omega) (by omega)];rfl
   simp only [↓rA,rB,buildOk,nt_is,Int.reduceEq,Int.reduceLE,Int.reduceLT,Int.reduceToNat,Nat.reduceAdd,Nat.reduceEqDiff,Nat.reduceLT,Nat.reduceLeDiff,Nat.reduceMul,Nat.reduceSub,reduceCtorEq,tbGW0,Tryz.results154,h,gr,gb,g0,g2,w1]
   refine⟨y / 2 ^ 16,a+16,⟨by omega,by omega,by rw [bits_shift (k:=16) (n:=y) (by omega)];omega⟩,?_,rfl⟩
   congr 3
   rw [show min 16 IntKind.u64.bits=16 from rfl,Int.fdiv_eq_ediv_of_nonneg _ (by decide)]
   omega
  ·simp only [↓rA,rB,buildOk,nt_is,Int.reduceEq,Int.reduceLE,Int.reduceLT,Int.reduceToNat,Nat.reduceAdd,Nat.reduceEqDiff,Nat.reduceLT,Nat.reduceLeDiff,Nat.reduceMul,Nat.reduceSub,reduceCtorEq,tbGW0,Tryz.results154,h,gr,gb,g0,g2]
   exact⟨y,a,⟨by omega,by omega,rfl⟩,rfl,rfl⟩
 clear gr gb g0 g2
 rintro S ⟨y',a',⟨hy',ha',e⟩,gr,gb,g0,g2⟩
 rw [e]
 clear e ha hy
 rw [EX_seq]
 refine EX_cut (fun S=>∃ y a:Nat,(y < 256∧a≤56∧a'+bitsN y'=a+bitsN y)∧S.rows=[]∧S.boxes=[]∧S.σ 0=vu y∧S.σ 2=vint a) ?_ ?_
 ·by_cases h:(256:Int)≤y'
  ·have w1:IntKind.i64.wrap ((a':Int)+8)=((a'+8:Nat):Int):=by rw [wrap_id (by omega) (by omega)];rfl
   simp only [↓rA,rB,buildOk,nt_is,Int.reduceEq,Int.reduceLE,Int.reduceLT,Int.reduceToNat,Nat.reduceAdd,Nat.reduceEqDiff,Nat.reduceLT,Nat.reduceLeDiff,Nat.reduceMul,Nat.reduceSub,reduceCtorEq,tbGW0,Tryz.results154,h,gr,gb,g0,g2,w1]
   refine⟨y' / 2 ^ 8,a'+8,⟨by omega,by omega,by rw [bits_shift (k:=8) (n:=y') (by omega)];omega⟩,?_,rfl⟩
   congr 3
   rw [show min 8 IntKind.u64.bits=8 from rfl,Int.fdiv_eq_ediv_of_nonneg _ (by decide)]
   omega
  ·simp only [↓rA,rB,buildOk,nt_is,Int.reduceEq,Int.reduceLE,Int.reduceLT,Int.reduceToNat,Nat.reduceAdd,Nat.reduceEqDiff,Nat.reduceLT,Nat.reduceLeDiff,Nat.reduceMul,Nat.reduceSub,reduceCtorEq,tbGW0,Tryz.results154,h,gr,gb,g0,g2]
   exact⟨y',a',⟨by omega,by omega,rfl⟩,rfl,rfl⟩
 clear gr gb g0 g2
 rintro S ⟨z,a2,⟨hz,ha2,e⟩,gr,gb,g0,g2⟩
 rw [e]
 clear e
 have hw:IntKind.u8.wrap (z:Int)=z:=by rw [IntKind.wrap_u8];omega
 simp only [↓rA,rB,buildOk,nt_is,Int.reduceEq,Int.reduceLE,Int.reduceLT,Int.reduceToNat,Nat.reduceAdd,Nat.reduceEqDiff,Nat.reduceLT,Nat.reduceLeDiff,Nat.reduceMul,Nat.reduceSub,reduceCtorEq,tbGW0,Tryz.results154,gr,gb,g0,g2,hw]
 refine⟨sz_fin _ (by kernel_rfl) z hz,?_⟩
 refine ret_done ?_
 exact tab_fin _ (by kernel_rfl) z a2 hz ha2
def tbGW1:=(aI (aI Ty.c205 (aI Ty.c206 Ty.t117)) (aI (aI Ty.t152 Ty.t238) (aI Ty.t3 Ty.t53)))
theorem counted_ok (f:Int→Option Int) (g:List (Nat × Int × Int)) (cl bm:Nat) (hg:GoodK id f g cl) (hgl:g.length≤200000) (L:List (Int × Int)) (hin:∀ i v,f i=some v→inW v) (hL:Canon ordI addW L) (hLg:∀ i,Sg.get ordI addW L i=(f i).getD 0) :
  Ok Tryz.prog 202 [.lit (.map (some bm))] [(bm,.m ksI (entsK kI vint g) cl)] fun v bs rs=>v=vBks L∧bs=[]∧rs=[]:=by
 refine Ok.of_ex Ty.mixed Tryz.func202 rfl (by simp [Tryz.ntmps202]) (by kernel_rfl) fun F w0 I0=>?_
 simp only [↓rA,rB,buildOk,nt_is,Int.reduceEq,Int.reduceLE,Int.reduceLT,Int.reduceToNat,Nat.reduceAdd,Nat.reduceEqDiff,Nat.reduceLT,Nat.reduceLeDiff,Nat.reduceMul,Nat.reduceSub,reduceCtorEq,tbGW1,Tryz.results202]
 refine OkF_with [_] [] (List.Perm.refl _) (ordered_ok f g cl bm hg hgl L hin hL hLg) ?_
 rintro v bs rs ⟨rfl,rfl,rfl⟩
 simp only [↓rA,rB,buildOk,nt_is,Int.reduceEq,Int.reduceLE,Int.reduceLT,Int.reduceToNat,Nat.reduceAdd,Nat.reduceEqDiff,Nat.reduceLT,Nat.reduceLeDiff,Nat.reduceMul,Nat.reduceSub,reduceCtorEq,tbGW1,Tryz.results202]
 exact ret_done rfl
def tbGW2:=(aI Ty.c154 (aI Ty.t3 Ty.t49))
theorem bucket_ok (x:Int) (hx:0≤x) (hx':x < 18446744073709551616):OkP Tryz.prog 207 [vu x] (vint (bucketN x.toNat)):=by
 refine Ok.of_ex Ty.mixed Tryz.func207 rfl (by simp [Tryz.ntmps207]) (by kernel_rfl) fun F w0 I0=>?_
 simp only [↓rA,rB,buildOk,nt_is,Int.reduceEq,Int.reduceLE,Int.reduceLT,Int.reduceToNat,Nat.reduceAdd,Nat.reduceEqDiff,Nat.reduceLT,Nat.reduceLeDiff,Nat.reduceMul,Nat.reduceSub,reduceCtorEq,tbGW2,Tryz.results207]
 refine OkF_of _ (len64_ok x hx hx') ?_
 simp only [↓rA,rB,buildOk,nt_is,Int.reduceEq,Int.reduceLE,Int.reduceLT,Int.reduceToNat,Nat.reduceAdd,Nat.reduceEqDiff,Nat.reduceLT,Nat.reduceLeDiff,Nat.reduceMul,Nat.reduceSub,reduceCtorEq,tbGW2,Tryz.results207]
 have hb:bitsN x.toNat≤64:=bits_le (by omega)
 have hsm:=shr_small x.toNat
 have e0:(if (0:Int) > IntKind.i64.wrap ((bitsN x.toNat:Int) - 6) then 0 else IntKind.i64.wrap ((bitsN x.toNat:Int) - 6))=((bitsN x.toNat - 6:Nat):Int):=by
  rw [wrap_id (by omega) (by omega)]
  split <;> omega
 have e1:x.fdiv (2 ^ min (bitsN x.toNat - 6) IntKind.u64.bits)=((x.toNat / 2 ^ (bitsN x.toNat - 6):Nat):Int):=by
  have:min (bitsN x.toNat - 6) IntKind.u64.bits=bitsN x.toNat - 6:=Nat.min_eq_left (by show _≤64;omega)
  rw [this,Int.fdiv_eq_ediv_of_nonneg _ (Int.le_of_lt (Int.pow_pos (by omega)))]
  generalize bitsN x.toNat - 6=k
  obtain⟨m,rfl⟩:∃ m:Nat,x=m:=⟨x.toNat,(Int.toNat_of_nonneg hx).symm⟩
  simp
 simp only [↓rA,rB,buildOk,nt_is,Int.reduceEq,Int.reduceLE,Int.reduceLT,Int.reduceToNat,Nat.reduceAdd,Nat.reduceEqDiff,Nat.reduceLT,Nat.reduceLeDiff,Nat.reduceMul,Nat.reduceSub,reduceCtorEq,tbGW2,Tryz.results207,e0,e1]
 have e2:IntKind.i64.wrap (IntKind.i64.wrap (32 * ((bitsN x.toNat - 6:Nat):Int))+IntKind.i64.wrap ((x.toNat / 2 ^ (bitsN x.toNat - 6):Nat):Int))=(bucketN x.toNat:Int):=by
  unfold bucketN
  have hk:bitsN x.toNat - 6≤58:=by omega
  generalize bitsN x.toNat - 6=k at hsm hk ⊢
  generalize x.toNat / 2 ^ k=q at hsm
  rw [wrap_id (n:=32 * (k:Int)) (by omega) (by omega),wrap_id (n:=(q:Int)) (by omega) (by omega),wrap_id (by omega) (by omega)]
  omega
 rw [e2]
 exact ret_done rfl
theorem bucketN_small (x:Nat) (h:x < 18446744073709551616):bucketN x≤2000:=by
 have hb:bitsN x≤64:=bits_le (by omega)
 have:=shr_small x
 unfold bucketN;omega
def tbGW3:=(aI (aI Ty.c207 Ty.t3) (aI Ty.t4 Ty.t49))
theorem idx_ok (n:Int) (hn:inW n):OkP Tryz.prog 204 [vint n] (vint (idxM n)):=by
 unfold inW at hn
 refine Ok.of_ex Ty.mixed Tryz.func204 rfl (by simp [Tryz.ntmps204]) (by kernel_rfl) fun F w0 I0=>?_
 by_cases h:n < 0
 ·simp only [↓rA,rB,buildOk,nt_is,Int.reduceEq,Int.reduceLE,Int.reduceLT,Int.reduceToNat,Nat.reduceAdd,Nat.reduceEqDiff,Nat.reduceLT,Nat.reduceLeDiff,Nat.reduceMul,Nat.reduceSub,reduceCtorEq,tbGW3,Tryz.results204,h]
  have e:IntKind.u64.wrap (0 - IntKind.u64.wrap n)=-n:=by rw [IntKind.wrap_u64,IntKind.wrap_u64];omega
  rw [e]
  refine OkF_of _ (bucket_ok (-n) (by omega) (by omega)) ?_
  have hs:=bucketN_small (-n).toNat (by omega)
  have e2:idxM n=IntKind.i64.wrap (0 - (bucketN (-n).toNat:Int)):=by
   unfold idxM
   rw [if_pos h,wrap_id (by omega) (by omega),Int.zero_sub]
  rw [e2]
  simp only [↓rA,rB,buildOk,nt_is,Int.reduceEq,Int.reduceLE,Int.reduceLT,Int.reduceToNat,Nat.reduceAdd,Nat.reduceEqDiff,Nat.reduceLT,Nat.reduceLeDiff,Nat.reduceMul,Nat.reduceSub,reduceCtorEq,tbGW3,Tryz.results204]
  exact ret_done rfl
 ·simp only [↓rA,rB,buildOk,nt_is,Int.reduceEq,Int.reduceLE,Int.reduceLT,Int.reduceToNat,Nat.reduceAdd,Nat.reduceEqDiff,Nat.reduceLT,Nat.reduceLeDiff,Nat.reduceMul,Nat.reduceSub,reduceCtorEq,tbGW3,Tryz.results204,h]
  have e:IntKind.u64.wrap n=n:=by rw [IntKind.wrap_u64];omega
  rw [e]
  refine OkF_of _ (bucket_ok n (by omega) (by omega)) ?_
  have e2:idxM n=(bucketN n.toNat:Int):=by unfold idxM;rw [if_neg h]
  rw [e2]
  simp only [↓rA,rB,buildOk,nt_is,Int.reduceEq,Int.reduceLE,Int.reduceLT,Int.reduceToNat,Nat.reduceAdd,Nat.reduceEqDiff,Nat.reduceLT,Nat.reduceLeDiff,Nat.reduceMul,Nat.reduceSub,reduceCtorEq,tbGW3,Tryz.results204]
  exact ret_done rfl
def tbGW4:=(aI (aI (aI Ty.c202 Ty.c203) (aI Ty.c204 Ty.t117)) (aI (aI Ty.t152 Ty.t239) (aI Ty.t3 Ty.t53)))
theorem sadd_ok (s:Bks) (hs:Canon ordI addW s) (n times:Int) (hn:inW n) (ht:inW times) (hl:s.length≤100000):OkP Tryz.prog 201 [vBks s,vint n,vint times] (vBks (put ordI addW (idxM n) times s)):=by
 have hwi:Go.Ar.addW.ok times:=ht
 refine Ok.of_ex Ty.mixed Tryz.func201 rfl (by simp [Tryz.ntmps201]) (by kernel_rfl) fun F w0 I0=>?_
 simp only [↓rA,rB,buildOk,nt_is,Int.reduceEq,Int.reduceLE,Int.reduceLT,Int.reduceToNat,Nat.reduceAdd,Nat.reduceEqDiff,Nat.reduceLT,Nat.reduceLeDiff,Nat.reduceMul,Nat.reduceSub,reduceCtorEq,tbGW4,Tryz.results201]
 refine fun y=>OkF_with [] [] (List.Perm.refl _) (counts_ok s hl (some y)) ?_
 rintro v bs rs ⟨rfl,b,g,cl,rfl,rfl,hg,hgl⟩
 simp only [↓rA,rB,buildOk,nt_is,Int.reduceEq,Int.reduceLE,Int.reduceLT,Int.reduceToNat,Nat.reduceAdd,Nat.reduceEqDiff,Nat.reduceLT,Nat.reduceLeDiff,Nat.reduceMul,Nat.reduceSub,reduceCtorEq,tbGW4,Tryz.results201]
 refine OkF_with [] [_] (List.Perm.refl _) (idx_ok n hn) ?_
 rintro v bs rs ⟨rfl,rfl,rfl⟩
 simp only [↓rA,rB,buildOk,nt_is,Int.reduceEq,Int.reduceLE,Int.reduceLT,Int.reduceToNat,Nat.reduceAdd,Nat.reduceEqDiff,Nat.reduceLT,Nat.reduceLeDiff,Nat.reduceMul,Nat.reduceSub,reduceCtorEq,tbGW4,Tryz.results201]
 generalize idxM n=i
 rw [show (Value.int IntKind.i64 i)=kI i from rfl]
 have hfm:=findM_entsK (cV:=vint) keq_I i g
 have hv:=hg.val i
 have hsum:∀ j,((cntS (cntF s) (i,times)) j).getD 0=Sg.get ordI addW (put ordI addW i times s) j:=fun j=>by
  have h1:=cntF_get s (fun p hp=>(hs.val p hp).2) j
  have h2:=cntF_get s (fun p hp=>(hs.val p hp).2) i
  rw [show puts ordI addW [] s=s from(Add.map ordI addW).zadd hs] at h1 h2
  rw [get_put ht j hs]
  unfold cntS updF
  by_cases e:j=i
  ·rw [if_pos e,if_pos e,← h2];rfl
  ·rw [if_neg e,if_neg e];exact h1
 have hin:∀ j v,cntS (cntF s) (i,times) j=some v→inW v:=fun j v h=>by
  unfold cntS updF at h
  split at h
  ·cases h;exact wrap_in _
  ·exact cntF_in s j v h
 rw [hfm]
 cases hgk:getK g i with
 | none =>
  rw [hgk] at hv hfm
  simp only [Option.map_none] at hv hfm
  have e:updF (cntF s) i (addW.add 0 times)=cntS (cntF s) (i,times):=by unfold cntS;rw [← hv];rfl
  have hnew:GoodK id (cntS (cntF s) (i,times)) (g++[(cl,i,addW.add 0 times)]) (cl+1):=by rw [← e];exact hg.new hgk (addW.add 0 times)
  simp only [↓rA,rB,buildOk,nt_is,Int.reduceEq,Int.reduceLE,Int.reduceLT,Int.reduceToNat,Nat.reduceAdd,Nat.reduceEqDiff,Nat.reduceLT,Nat.reduceLeDiff,Nat.reduceMul,Nat.reduceSub,reduceCtorEq,tbGW4,Tryz.results201]
  rw [show (Value.int IntKind.i64 i)=kI i from rfl]
  rw [hfm]
  simp only [↓rA,rB,buildOk,nt_is,Int.reduceEq,Int.reduceLE,Int.reduceLT,Int.reduceToNat,Nat.reduceAdd,Nat.reduceEqDiff,Nat.reduceLT,Nat.reduceLeDiff,Nat.reduceMul,Nat.reduceSub,reduceCtorEq,tbGW4,Tryz.results201]
  rw [show entsK kI vint g++[(cl,kI i,V.lit (Value.int IntKind.i64 (IntKind.i64.wrap (0+times))))]=entsK kI vint (g++[(cl,i,addW.add 0 times)]) by rw [show IntKind.i64.wrap (0+times)=addW.add 0 times from rfl];simp [entsK]]
  refine OkF_with [_] [] (List.Perm.refl _) (counted_ok _ (g++[(cl,i,addW.add 0 times)]) (cl+1) b hnew (by rw [List.length_append];simp only [List.length_cons,List.length_nil];omega) (put ordI addW i times s) hin (hs.put ht) fun j=>(hsum j).symm) ?_
  rintro v bs rs ⟨rfl,rfl,rfl⟩
  simp only [↓rA,rB,buildOk,nt_is,Int.reduceEq,Int.reduceLE,Int.reduceLT,Int.reduceToNat,Nat.reduceAdd,Nat.reduceEqDiff,Nat.reduceLT,Nat.reduceLeDiff,Nat.reduceMul,Nat.reduceSub,reduceCtorEq,tbGW4,Tryz.results201]
  exact ret_done rfl
 | some p =>
  rw [hgk] at hv hfm
  simp only [Option.map_some] at hv hfm
  have e:updF (cntF s) i (addW.add p.2.2 times)=cntS (cntF s) (i,times):=by unfold cntS;rw [← hv];rfl
  have hold:GoodK id (cntS (cntF s) (i,times)) (modK i (addW.add p.2.2 times) g) cl:=by rw [← e];exact hg.old hgk (addW.add p.2.2 times)
  simp only [↓rA,rB,buildOk,nt_is,Int.reduceEq,Int.reduceLE,Int.reduceLT,Int.reduceToNat,Nat.reduceAdd,Nat.reduceEqDiff,Nat.reduceLT,Nat.reduceLeDiff,Nat.reduceMul,Nat.reduceSub,reduceCtorEq,tbGW4,Tryz.results201]
  rw [show (Value.int IntKind.i64 i)=kI i from rfl]
  rw [hfm]
  simp only [↓rA,rB,buildOk,nt_is,Int.reduceEq,Int.reduceLE,Int.reduceLT,Int.reduceToNat,Nat.reduceAdd,Nat.reduceEqDiff,Nat.reduceLT,Nat.reduceLeDiff,Nat.reduceMul,Nat.reduceSub,reduceCtorEq,tbGW4,Tryz.results201]
  rw [show V.lit (Value.int IntKind.i64 (IntKind.i64.wrap (p.2.2+times)))=vint (addW.add p.2.2 times) from rfl,modM_entsK (cV:=vint) keq_I]
  refine OkF_with [_] [] (List.Perm.refl _) (counted_ok _ (modK i (addW.add p.2.2 times) g) cl b hold (by rw [modK_len];omega) (put ordI addW i times s) hin (hs.put ht) fun j=>(hsum j).symm) ?_
  rintro v bs rs ⟨rfl,rfl,rfl⟩
  simp only [↓rA,rB,buildOk,nt_is,Int.reduceEq,Int.reduceLE,Int.reduceLT,Int.reduceToNat,Nat.reduceAdd,Nat.reduceEqDiff,Nat.reduceLT,Nat.reduceLeDiff,Nat.reduceMul,Nat.reduceSub,reduceCtorEq,tbGW4,Tryz.results201]
  exact ret_done rfl
end Go.Proofs.YtjdggbanifineaaGreat
