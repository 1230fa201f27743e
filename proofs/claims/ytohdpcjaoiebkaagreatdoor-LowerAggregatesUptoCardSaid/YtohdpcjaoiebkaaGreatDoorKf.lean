/- Merged out of my texts WL L6 L6b WM. -/
import Derived.Test.YtohdpcjaoiebkaaGreatDoorKe
import Derived.Sort.Walk0
import Derived.Test.YtohdpcjaoiebkaaGreatDoorKVJ
import Derived.Test.YtohdpcjaoiebkaaGreatDoorRows
import Derived.ProofKit
import Derived.JoinedCond
import Derived.OpenShut
import Derived.Shelf.Vars
import Derived.Lay
import Derived.Deep.DeepHandedRow
import Derived.Deep.DeepWitnessRowRef
set_option linter.unusedVariables false
set_option linter.unusedSimpArgs false
set_option maxRecDepth 100000
set_option linter.defProp false
namespace Go.Proofs.YtohdpcjaoiebkaaGreatDoor
open Go.VL Go.Ar Go.Lo Go.Pr Go.Proofs.YtohdpcjaoiebkaaGreatDoor Go.Shelf
theorem qm9:∀ x y:E,y ∈ jw x→y.hd.kind=5:=by
 intro x
 induction x using E.ind with
 | h hd l ih =>
  intro y hy
  rw [Qh] at hy
  by_cases h5:hd.kind=5
  ·rw [if_pos h5,List.mem_singleton] at hy
   rw [hy]
   exact h5
  ·rw [if_neg h5] at hy
   obtain⟨z,hz,hyz⟩:=Jw hy
   exact ih z hz y hyz
theorem qB5:∀ y:E,y.hd.kind=5→zE y ≠ []
 | .mk h l,h5=>by
  have h5:h.kind=5:=h5
  unfold zE
  rw [jK]
  unfold mkT
  rw [if_neg (by omega),if_neg (by omega),if_neg (by omega),if_neg (by omega),if_pos h5]
  simp [tx]
noncomputable abbrev fC (D l:List E):List V:=l.map fun y=>qv (decide (y ∈ D))
theorem qAu (D l:List E):(fC D l).length=l.length:=List.length_map _
theorem qAt {A B:List V} {j:Nat} (h:A.length=j) (v w:V):(A++v::B).take j++[w]++(A++v::B).drop (j+1)=A++w::B:=by
 rw [List.take_left' h,show A++v::B=(A++[v])++B by simp,List.drop_left' (by simp [h])]
 simp
theorem qvw (D:List E) {L:List E} {j:Nat} (h:j < L.length):fC D (L.take (j+1))=fC D (L.take j)++[qv (decide (L[j] ∈ D))]:=by
 unfold fC
 rw [List.take_succ_eq_append_getElem h,List.map_append]
 rfl
theorem qiv (D:List E) {L:List E} {j:Nat} (h:j < L.length):fC D (L.drop j)=qv (decide (L[j] ∈ D))::fC D (L.drop (j+1)):=by
 unfold fC
 rw [List.drop_eq_getElem_cons h]
 rfl
def jL:=(aI (aI (aI (aI Ty.c4 (aI Ty.c5 Ty.c6)) (aI Ty.c7 (aI Ty.c8 Ty.c9))) (aI (aI Ty.t126 (aI Ty.t22 Ty.t23)) (aI (aI Ty.t25 Ty.t27) (aI Ty.t29 Ty.t3)))) (aI (aI (aI Ty.t31 (aI Ty.t32 Ty.t35)) (aI Ty.t36 (aI Ty.t38 Ty.t4))) (aI (aI Ty.t40 (aI Ty.t43 Ty.t45)) (aI (aI Ty.t60 Ty.t61) (aI Ty.t63 Ty.t9)))))
theorem qAk (n:Nat) (c:Cat) (hn:n≤1000000) (hk:Qw n c):zc Tryz.prog 3 [wT c] (qv true):=by
 have he:=qgi
 have hch:=qgp n c hn hk
 refine Ok.of_exM [(14,4)] Ty.mixed Tryz.func3 rfl (by simp [Tryz.ntmps3]) (by kernel_rfl) fun F w0 I0=>?_
 simp only [↓rA,rB,qf,simprocAttr]
 refine fun b1 n1=>?_;replace n1:=qn n1;try simp only [Nb] at n1
 simp only [↓rA,rB,simprocAttr,jL]
 refine qg _ he ?_
 simp only [↓rA,rB,simprocAttr,jL]
 refine qi [] _ (List.Perm.refl _) hch ?_
 rintro v bs rs ⟨⟨k,rfl,hc⟩,rfl,rfl⟩
 by_cases e:k=0
 case neg =>
  simp only [↓rA,rB,simprocAttr,Tryz.results3,e]
  exact qa rfl
 have hc:=hc e
 simp only [↓rA,rB,simprocAttr,jL,e]
 refine qi [] _ (List.Perm.refl _) (qwl n c hn hk hc) ?_
 rintro v bs rs ⟨⟨L,rfl,hl,hL⟩,rfl,rfl⟩
 have hkind:∀ y ∈ L,y.hd.kind=5:=fun y hy=>by
  obtain⟨f,_,h⟩:=(hL.mem y).1 hy
  exact qm9 _ _ h
 simp only [↓rA,rB,simprocAttr,jL,List.length_map]
 refine⟨⟨by omega,by omega⟩,?_⟩
 refine fun b5 n5=>?_;replace n5:=qn n5;try simp only [Nb] at n5
 have hrep:(List.replicate L.length [V.lit (Value.bool false)]).flatten=fC [] L:=by
  clear hL hl hkind
  induction L with
  | nil=>rfl
  | cons y r ih=>rw [List.length_cons,List.replicate_succ,List.flatten_cons,ih];rfl
 simp only [↓rA,rB,simprocAttr,Tryz.results3,hrep,List.length_map]
 refine qB Ty.mixed (by kernel_rfl) L.length (fun i S=>∃ s:Str,(∀ h:i < L.length,sb s < zE L[i])∧S.boxes=[(b5,.c (fC [] L)),(b1,.c (xz c))]∧S.rows=[]∧S.σ 1=ptr b1∧S.σ 3=qv true∧S.σ 4=.list none 12 (L.map cE)∧S.σ 5=.lit (.slice (some ⟨b5,0,none⟩) L.length L.length)∧S.σ 6=qm s∧S.σ 7=vint i) ⟨0,?_⟩ (fun i S hi ⟨s,hs,gb,gr,g1,g3,g4,g5,g6,g7⟩=>?_) (fun S ⟨s,hs,gb,gr,g1,g3,g4,g5,g6,g7⟩=>?_)
 ·simp only [rB,simprocAttr]
  refine⟨es0,fun h=>?_,rfl⟩
  cases ht:zE L[0] with
  | nil=>exact absurd ht (qB5 _ (hkind _ (List.getElem_mem h)))
  | cons a r=>exact List.nil_lt_cons a r
 ·have hwi:=qk (i:=i) (N:=L.length) hi (by omega)
  have hmem:=List.getElem_mem hi
  have hq:=qiw (hL.pr _ hmem)
  rw [vE,qx] at hq
  have hlt:sb s < zE L[i]:=hs hi
  have hb1:Op.bytesLess (zE L[i]) s.data.toList=false:=by
   rw [Go.Proofs.bytesLess_eq,decide_eq_false]
   exact fun h=>absurd (List.lt_trans h hlt) (Std.lt_irrefl)
  have hb2:¬ ts (zE L[i])=s:=fun e=>by
   rw [← e] at hlt
   exact absurd hlt (Std.lt_irrefl)
  simp only [↓rA,rB,simprocAttr,jL,gb,g4,g7,Int.ofNat_lt,hi,List.length_map,qd _ _ _ hi,qx]
  refine qg _ hq ?_
  simp only [↓rA,rB,simprocAttr,gr,g1,g3,g4,g5,g6,g7,hb1,hb2,hwi]
  refine⟨0,_,fun h=>?_,rfl,rfl⟩
  exact List.pairwise_iff_getElem.1 hL.srt i (i+1) hi h (Nat.lt_succ_self i)
 obtain⟨hc1,hc2,hc3⟩:=hc
 have hfl:(c.features++c.drafts).length≤64:=by rw [List.length_append];omega
 have hbody:∀ f ∈ c.features++c.drafts,kI f.body∧qY f.body=0:=fun f hf=>by
  refine⟨?_,hc3 f (List.mem_append_left _ hf)⟩
  rcases List.mem_append.1 hf with hf | hf
  ·exact(hk.ff f hf).1.2
  ·exact(hk.fd f hf).1.2
 have hin:∀ f ∈ c.features++c.drafts,∀ y ∈ jw f.body,y ∈ L:=fun f hf y hy=>(hL.mem y).2 ⟨f,hf,hy⟩
 have hout:∀ y ∈ L,y ∈ allEs ((c.features++c.drafts).map Ftr.body):=fun y hy=>by
  obtain⟨f,hf,h⟩:=(hL.mem y).1 hy
  exact Xy (List.mem_map_of_mem hf) h
 simp only [↓rA,rB,simprocAttr,jL,gb,gr,g1,g4,g7,n5,Int.ofNat_lt,Nat.lt_irrefl,List.length_map]
 refine fun y0=>⟨by omega,fun y1=>⟨by omega,fun y2=>?_⟩⟩
 rw [← List.map_append]
 generalize hfs:c.features++c.drafts=fs at *
 refine qB Ty.mixed (by kernel_rfl) fs.length (fun i S=>S.boxes=[(b5,.c (fC (allEs ((fs.take i).map Ftr.body)) L)),(b1,.c (xz c))]∧S.σ 1=ptr b1∧S.σ 3=qv true∧S.σ 4=.list none 12 (L.map cE)∧S.σ 5=.lit (.slice (some ⟨b5,0,none⟩) L.length L.length)∧S.σ 10=.list (some y2) 18 (fs.map uN)∧S.σ 11=vint i) ⟨0,?_⟩ (fun i S hi ⟨gb,g1,g3,g4,g5,g10,g11⟩=>?_) (fun S ⟨gb,g1,g3,g4,g5,g10,g11⟩=>?_)
 ·simp only [rB,simprocAttr,gb,g1,g3,g4,g5,allEs]
 ·have hwi:=qk (i:=i) (N:=fs.length) hi (by omega)
  have hmem:=List.getElem_mem hi
  have hsz:=(xA (hbody _ hmem).2).1
  have hq:=qwk fs[i].body (hbody _ hmem).1 (by omega)
  have hMl:=ZX fs[i].body
  have hMin:=hin _ hmem
  have hD:allEs ((fs.take (i+1)).map Ftr.body)=allEs ((fs.take i).map Ftr.body)++jw fs[i].body:=by
   rw [List.take_succ_eq_append_getElem hi,List.map_append,jv]
   simp only [List.map_cons,List.map_nil,allEs,List.append_nil]
  rw [vE,qx] at hq
  simp only [↓rA,rB,simprocAttr,jL,gb,g10,g11,Int.ofNat_lt,hi,List.length_map,qd _ _ _ hi,qW]
  refine qg _ hq ?_
  rw [hD]
  generalize allEs ((fs.take i).map Ftr.body)=D0 at *
  generalize hM:jw fs[i].body=M at *
  simp only [↓rA,rB,simprocAttr]
  refine qB Ty.mixed (by kernel_rfl) M.length (fun k S=>S.boxes=[(b5,.c (fC (D0++M.take k) L)),(b1,.c (xz c))]∧S.σ 1=ptr b1∧S.σ 3=qv true∧S.σ 4=.list none 12 (L.map cE)∧S.σ 5=.lit (.slice (some ⟨b5,0,none⟩) L.length L.length)∧S.σ 10=.list (some y2) 18 (fs.map uN)∧S.σ 11=vint i∧S.σ 12=.list none 12 (M.map cE)∧S.σ 13=vint k) ⟨0,?_⟩ (fun k S hk ⟨gb,g1,g3,g4,g5,g10,g11,g12,g13⟩=>?_) (fun S ⟨gb,g1,g3,g4,g5,g10,g11,g12,g13⟩=>?_)
  ·simp only [rB,simprocAttr,g1,g3,g4,g5,g10,g11]
  ·have hwk:=qk (i:=k) (N:=M.length) hk (by omega)
   have hkm:=List.getElem_mem hk
   have hML:=hMin _ hkm
   have hfk:=(hL.pr _ hML).fit
   have hT:M.take (k+1)=M.take k++[M[k]]:=List.take_succ_eq_append_getElem hk
   have hD1:D0++M.take (k+1)=(D0++M.take k)++[M[k]]:=by rw [hT,List.append_assoc]
   have gm:List.getD (M.map cE) k []=cE M[k]:=qd _ _ _ hk
   rw [hD1]
   generalize D0++M.take k=D at *
   generalize M[k]=z at *
   simp only [↓rA,rB,simprocAttr,jL,g12,g13,Int.ofNat_lt,hk,List.length_map]
   refine qB Ty.mixed (by kernel_rfl) L.length (fun j S=>S.boxes=[(b5,.c (fC (D++[z]) (L.take j)++fC D (L.drop j))),(b1,.c (xz c))]∧S.σ 1=ptr b1∧S.σ 3=qv true∧S.σ 4=.list none 12 (L.map cE)∧S.σ 5=.lit (.slice (some ⟨b5,0,none⟩) L.length L.length)∧S.σ 10=.list (some y2) 18 (fs.map uN)∧S.σ 11=vint i∧S.σ 12=.list none 12 (M.map cE)∧S.σ 13=vint k∧S.σ 14=qv (decide (z ∈ L.take j))∧S.σ 15=vint j) ⟨0,?_⟩ (fun j S hj ⟨gb,g1,g3,g4,g5,g10,g11,g12,g13,g14,g15⟩=>?_) (fun S ⟨gb,g1,g3,g4,g5,g10,g11,g12,g13,g14,g15⟩=>?_)
   ·simp only [rB,simprocAttr,gb,g1,g3,g4,g5,g10,g11,g12,g13]
    simp
   ·have hwj:=qk (i:=j) (N:=L.length) hj (by omega)
    have hjm:=List.getElem_mem hj
    have hs:=Zu L[j] (hL.pr _ hjm).fit z
    simp only [vE,qx L[j],qx z] at hs
    have hTj:L.take (j+1)=L.take j++[L[j]]:=List.take_succ_eq_append_getElem hj
    have hlj:(fC (D++[z]) (L.take j)).length=j:=by rw [qAu,List.length_take];omega
    rw [qiv D hj] at gb
    rw [qvw (D++[z]) hj,hTj]
    have hset:=qAt (B:=fC D (L.drop (j+1))) hlj
    simp only [↓rA,rB,simprocAttr,jL,g4,g12,g13,g15,Int.ofNat_lt,hj,hk,List.length_map,qd _ _ _ hj,gm,qx]
    refine qF _ hs.v ?_
    by_cases e:L[j]=z
    ·simp only [↓rA,rB,simprocAttr,jL,gb,g1,g3,g4,g5,g10,g11,g12,g13,g15,Int.ofNat_lt,hj,e,Nat.mul_one,hset,hwj]
     refine⟨by rw [List.length_append,hlj,List.length_cons];omega,0,?_,?_⟩
     ·rw [decide_eq_true (show z ∈ D++[z] by simp),List.append_assoc]
      rfl
     ·rw [decide_eq_true (show z ∈ L.take j++[z] by simp)]
    ·simp only [↓rA,rB,simprocAttr,gb,g1,g3,g4,g5,g10,g11,g12,g13,g14,g15,e,hwj]
     refine⟨0,?_,?_⟩
     ·rw [show decide (L[j] ∈ D++[z])=decide (L[j] ∈ D) by simp [e],List.append_assoc]
      rfl
     ·have e':¬ z=L[j]:=fun h=>e h.symm
      rw [show decide (z ∈ L.take j++[L[j]])=decide (z ∈ L.take j) by simp only [List.mem_append,List.mem_singleton,e',or_false]]
   ·have hz:decide (z ∈ L.take L.length)=true:=by rw [List.take_length];exact decide_eq_true hML
    rw [hz] at g14
    rw [List.take_length,List.drop_length,fC,fC,List.map_nil,List.append_nil] at gb
    simp only [↓rA,rB,simprocAttr,jL,gb,g1,g3,g4,g5,g10,g11,g12,g13,g14,g15,Int.ofNat_lt,Nat.lt_irrefl,List.length_map,hwk]
    exact⟨0,rfl⟩
  ·rw [List.take_length] at gb
   simp only [↓rA,rB,simprocAttr,jL,gb,g1,g3,g4,g5,g10,g11,g12,g13,Int.ofNat_lt,Nat.lt_irrefl,List.length_map,hwi]
   exact⟨0,rfl⟩
 ·rw [List.take_length] at gb
  simp only [↓rA,rB,simprocAttr,jL,g10,g11,Int.ofNat_lt,Nat.lt_irrefl,List.length_map]
  refine qB Ty.mixed (by kernel_rfl) L.length (fun j S=>S.boxes=[(b5,.c (fC (allEs (fs.map Ftr.body)) L)),(b1,.c (xz c))]∧S.σ 3=qv true∧S.σ 5=.lit (.slice (some ⟨b5,0,none⟩) L.length L.length)∧S.σ 16=vint j) ⟨0,?_⟩ (fun j S hj ⟨gb,g3,g5,g16⟩=>?_) (fun S ⟨gb,g3,g5,g16⟩=>?_)
  ·simp only [rB,simprocAttr,gb,g3,g5]
  ·have hwj:=qk (i:=j) (N:=L.length) hj (by omega)
   have hd:List.drop j (fC (allEs (fs.map Ftr.body)) L)=qv true::fC (allEs (fs.map Ftr.body)) (L.drop (j+1)):=by
    have:=qiv (allEs (fs.map Ftr.body)) hj
    rw [decide_eq_true (hout _ (List.getElem_mem hj))] at this
    rw [← this]
    simp only [fC,List.map_drop]
   simp only [↓rA,rB,simprocAttr,jL,gb,g3,g5,g16,Int.ofNat_lt,hj,Nat.mul_one,hd,hwj]
   exact⟨0,rfl⟩
  ·simp only [↓rA,rB,simprocAttr,jL,gb,g3,g5,g16,Int.ofNat_lt,Nat.lt_irrefl]
   exact qa rfl
end Go.Proofs.YtohdpcjaoiebkaaGreatDoor
set_option linter.unusedSimpArgs false
set_option maxRecDepth 100000
namespace Go.Proofs.YtohdpcjaoiebkaaGreatDoor
open Go.VL Go.Ar Go.Lo Go.RowKit Go.ChangeShapes Go.WideShapes Go.Proofs.YtohdpcjaoiebkaaGreatDoor
theorem YG {P:Program} {w:World} {I:Cells} {enc:TypeId × Value→Unit} {base:Nat} {spare:Nat→Bool} {held:Bool} {n:Nat} {e:TypeId} {b o:Nat} (hI:∀ b o x,w.cell? ⟨b,o,none⟩=some x→I b o) (he:P.underlying e=some .string) :
  ∀ (ss:List ByteArray) (j:Nat) (elems:List (DataW Unit × List MemPlace)),elems.map (·.1)=ss.map (fun s=>.lit (.string s.data.toList)) →
   (∀ i,i < ss.length→(w.cells? base ((⟨b,o,none⟩:Addr).add ((j+i) * 1)) 1).bind (DataW.trod enc P w base spare held n e)=elems[i]?)→V.lies w I 1 (ss.map fun s=>[V.lit (.string s)]) b (o+j)
 | [],j,elems,_,_=>by simp only [List.map_nil,V.lies]
 | s::ss,j,[],h,_=>by simp at h
 | s::ss,j,y::elems,h,hd=>by
  simp only [List.map_cons,List.cons.injEq] at h
  have h0:=hd 0 (by simp)
  simp only [Nat.add_zero,Nat.mul_one,List.getElem?_cons_zero,Option.bind_eq_some_iff] at h0
  obtain⟨cs,hcs,ht⟩:=h0
  obtain⟨s',rfl,hy,_⟩:=DataW.trod_string he ht
  have hs:s'=s:=by
   have h1:=h.1
   rw [hy] at h1
   simp only [DataW.lit.injEq,Lit.string.injEq] at h1
   obtain⟨⟨l⟩⟩:=s
   obtain⟨⟨l'⟩⟩:=s'
   simp only at h1
   rw [h1]
  subst hs
  obtain⟨_,_,hcell⟩:=World.cells?_some hcs
  have hc0:=hcell 0 (by simp)
  simp only [List.getElem?_cons_zero] at hc0
  have hc1:w.cell? ⟨b,o+j,none⟩=some (.string s'):=by
   rw [← hc0]
   by_cases hj:j=0
   ·subst hj;rfl
   ·simp [Addr.add,hj]
  simp only [List.map_cons,V.lies,V.ats]
  refine⟨⟨⟨_,hc1,hI _ _ _ hc1,by simp [Go.VL.one],by simp only [V.rep]⟩,trivial⟩,rfl,?_⟩
  have ih:=YG (enc:=enc) (base:=base) (spare:=spare) (held:=held) (n:=n) hI he ss (j+1) elems h.2 fun i hi=>by
   have:=hd (i+1) (by simp only [List.length_cons];omega)
   rw [show j+(i+1)=j+1+i by omega] at this
   simpa using this
  exact ih
theorem qo0 {P:Program} {w:World} {I:Cells} {enc:TypeId × Value→Unit} {base:Nat} {spare:Nat→Bool} {held:Bool} {fuel:Nat} {t e:TypeId} {cs:List Value} {p:List MemPlace} (hI:∀ b o x,w.cell? ⟨b,o,none⟩=some x→I b o)
  (hu:P.underlying t=some (.slice e)) (he:P.underlying e=some .string) (hc:P.cellsOf e=1) (s:ByteArray) (ss:List ByteArray)
  (h:DataW.trod enc P w base spare held fuel t cs=some (.slice ((s::ss).map fun s=>.lit (.string s.data.toList)) [],p)):∃ x,cs=[x]∧Go.VL.one x∧V.rep w I (.list none 1 ((s::ss).map fun s=>[V.lit (.string s)])) x:=by
 rcases DataW.trod_slice hu h with⟨_,hx⟩ | ⟨a,len,cap,elems,rest,n,rfl,rfl,hx,hb,hl,hm,hlen,hel,_,_⟩
 ·cases hx
 ·simp only [Prod.mk.injEq,DataW.slice.injEq] at hx
  obtain⟨⟨hx1,hx2⟩,_⟩:=hx
  have hss:elems.length=ss.length+1:=by
   have:=congrArg List.length hx1
   simpa using this.symm
  obtain⟨b,o,spot⟩:=a
  have hspot:spot=none:=by
   have h0:=hel 0 (by omega)
   rw [hc,show elems[0]? = some (elems[0]'(by omega)) from by simp,Option.bind_eq_some_iff] at h0
   obtain⟨cs0,hcs0,_⟩:=h0
   obtain⟨_,hl0,hcell0⟩:=World.cells?_some hcs0
   have g0:=hcell0 0 (by omega)
   obtain⟨c0,hc0⟩:∃ c0,cs0[0]? = some c0:=⟨cs0[0]'(by omega),by simp⟩
   rw [hc0] at g0
   have:=World.cell?_spot g0
   cases spot with
   | none=>rfl
   | some q=>simp [Addr.add] at this
  subst hspot
  have hls:=YG (b:=b) (o:=o) hI he (s::ss) 0 elems hx1.symm fun i hi=>by
   have:=hel i (by simp only [List.length_cons] at hi;omega)
   rw [hc] at this
   rw [Nat.zero_add]
   exact this
  refine⟨_,rfl,by simp [Go.VL.one],?_⟩
  simp only [V.rep]
  refine⟨fun y hy=>(by cases hy),some ⟨b,o,none⟩,cap,?_,?_,.inr ⟨b,o,rfl,hls⟩⟩
  ·simp only [List.length_map,List.length_cons];congr 1;omega
  ·simp only [List.length_map,List.length_cons];omega
theorem qbx {w:World} {I:Cells} {g:Nat} {k:IntKind} (hI:∀ b o x,w.cell? ⟨b,o,none⟩=some x→I b o):∀ (ns:List Int) (o:Nat),(∀ i (h:i < ns.length),w.cell? ⟨g,o+i,none⟩=some (.int k ns[i]))→V.ats w I (ns.map fun n=>V.lit (.int k n)) g o
 | [],o,_=>by simp only [List.map_nil,V.ats]
 | n::r,o,h=>by
  simp only [List.map_cons,V.ats]
  have h0:=h 0 (by simp)
  simp only [Nat.add_zero,List.getElem_cons_zero] at h0
  refine⟨⟨_,h0,hI _ _ _ h0,by simp [Go.VL.one],by simp only [V.rep]⟩,qbx hI r (o+1) fun i hi=>?_⟩
  have:=h (i+1) (by simp only [List.length_cons];omega)
  rw [List.getElem_cons_succ] at this
  rwa [show o+1+i=o+(i+1) by omega]
theorem qvj {P:Program} {w:World} {enc:TypeId × Value→Unit} {base:Nat} {spare:Nat→Bool} {held:Bool} {fuel:Nat} {t e:TypeId} {m:Nat} {k:IntKind} {cs:List Value} {p:List MemPlace} {ns:List Int}
  (hu:P.underlying t=some (.array m e)) (he:P.underlying e=some (.int k)) (hc:P.cellsOf e=1)
  (h:DataW.trod enc P w base spare held fuel t cs=some (.agg (ns.map fun n=>.lit (.int k n)),p)):∀ i (h:i < ns.length),cs[i]? = some (.int k ns[i]):=by
 obtain⟨xs,f,rfl,hx,hl,hn,hi⟩:=DataW.trod_array hu h
 simp only [Prod.mk.injEq,DataW.agg.injEq] at hx
 obtain⟨hx,_⟩:=hx
 have hnl:ns.length=xs.length:=by
  have:=congrArg List.length hx
  simpa using this
 intro i hin
 have hix:i < xs.length:=by omega
 have h1:=hi i (by omega)
 rw [hc,Nat.mul_one,List.getElem?_eq_getElem hix] at h1
 obtain⟨n,hcs,hxi,_⟩:=DataW.trod_int he h1
 have h2:=congrArg (·[i]?) hx
 simp only [List.getElem?_map,List.getElem?_eq_getElem hix,List.getElem?_eq_getElem hin,Option.map_some,hxi,Option.some.injEq,DataW.lit.injEq,Lit.int.injEq,true_and] at h2
 have h3:=congrArg (·[0]?) hcs
 simp only [List.getElem?_take,List.getElem?_drop,Nat.add_zero,Nat.lt_one_iff,if_true,List.getElem?_cons_zero] at h3
 rw [h3,h2]
abbrev qqy : List (String × DataW Unit) := [("math/bits.deBruijn32tab", Rows.laid_math_bits_deBruijn32tab), ("math/bits.deBruijn64tab", Rows.laid_math_bits_deBruijn64tab), ("internal/strconv.uint64pow10", Rows.laid_internal_strconv_uint64pow10), ("asof/checker.aggregates", Rows.laid_asof_checker_aggregates), ("asof/checker.unary", Rows.laid_asof_checker_unary), ("asof/checker.binary", Rows.laid_asof_checker_binary)]
abbrev qpt:List Int:=[1,10,100,1000,10000,100000,1000000,10000000,100000000,1000000000,10000000000,100000000000,1000000000000,10000000000000,100000000000000,1000000000000000,10000000000000000,100000000000000000,1000000000000000000,10000000000000000000]
theorem qvp {W:World} (h:laidMetH Tryz.prog qqy W) (hsh:W.ShapedOpen Tryz.prog):Yi W fun b _=>b < W.heap.size:=by
 have hI:∀ b o x,W.cell? ⟨b,o,none⟩=some x→(fun b _=>b < W.heap.size:Cells) b o:=fun b o x hx=>by
  unfold World.cell? at hx
  show b < W.heap.size
  by_cases h:b < W.heap.size
  ·exact h
  ·rw [Array.getElem?_eq_none (by simpa using h)] at hx;simp at hx
 have one:∀ {nm:String} {g t:Nat} {g' t':Nat} {cs:Array Value} {fuel:Nat} {p:List MemPlace} (s:ByteArray) (ss:List ByteArray),Tryz.prog.globalNamed nm=some g→(Tryz.prog.globals[g]?).map (·.type)=some t→Tryz.prog.underlying t=some (.slice 9) →
   Tryz.prog.globalNamed nm=some g'→(Tryz.prog.globals[g']?).map (·.type)=some t'→W.var? Tryz.prog nm=some cs→DataW.trod (fun _=>()) Tryz.prog W 0 (fun _=>true) false fuel t' cs.toList=some (.slice ((s::ss).map fun s=>.lit (.string s.data.toList)) [],p) →
   V.ats W (fun b _=>b < W.heap.size) [.list none 1 ((s::ss).map fun s=>[V.lit (.string s)])] g 0:=by
  intro nm g t g' t' cs fuel p s ss hg ht hu hg' ht' hvar hd
  obtain rfl:=Option.some.inj (hg.symm.trans hg')
  obtain rfl:=Option.some.inj (ht.symm.trans ht')
  obtain⟨x,hx,h1,hr⟩:=qo0 (I:=fun b _=>b < W.heap.size) hI hu Ty.un9 (by kernel_rfl) s ss hd
  have hc:=World.var?_cell hg hvar 0
  have hx':cs[0]? = some x:=by
   have:=congrArg (·[0]?) hx
   simpa using this
  rw [hx'] at hc
  simp only [V.ats]
  exact⟨⟨x,hc,hI _ _ _ hc,h1,hr⟩,trivial⟩
 obtain⟨ps,⟨_,_,_,_,_,_,_,_,_,_,⟨_,_,_,_,_,_,_,_,_,_,⟨g3,t3,cs3,f3,p3,q3,a3,b3,c3,d3,⟨g0,t0,cs0,f0,p0,q0,a0,b0,c0,d0,⟨g1,t1,cs1,f1,p1,q1,a1,b1,c1,d1,⟨g2,t2,cs2,f2,p2,q2,a2,b2,c2,d2,_⟩,_⟩,_⟩,_⟩,_⟩,_⟩,_⟩:=h
 refine⟨fun p hp=>?_,fun g hg=>?_⟩
 ·have hp':p ∈ globsV:=hp
  simp only [globsV,List.mem_cons,List.not_mem_nil,or_false] at hp'
  rcases hp' with rfl | rfl | rfl | rfl
  ·have hg3 : Tryz.prog.globalNamed "internal/strconv.uint64pow10" = some 3 := by kernel_rfl
   obtain rfl:=Option.some.inj (hg3.symm.trans a3)
   obtain rfl:=Option.some.inj ((show (Tryz.prog.globals[3]?).map (·.type)=some 216 by kernel_rfl).symm.trans b3)
   have hk:=qvj (ns:=qpt) (e:=143) Ty.un216 (by kernel_rfl) (by kernel_rfl) d3
   have:=qbx (w:=W) (I:=fun b _=>b < W.heap.size) (g:=3) (k:=.u64) hI qpt 0 fun i h=>by
    rw [Nat.zero_add,World.var?_cell hg3 c3 i]
    have:=hk i h
    rwa [Array.getElem?_toList] at this
   exact this
  ·exact one (t := 69) ⟨#[99, 111, 117, 110, 116]⟩ [⟨#[115, 117, 109]⟩, ⟨#[109, 101, 97, 110]⟩, ⟨#[109, 105, 110]⟩, ⟨#[109, 97, 120]⟩, ⟨#[102, 105, 114, 115, 116]⟩, ⟨#[108, 97, 115, 116]⟩, ⟨#[100, 105, 115, 116, 105, 110, 99, 116]⟩, ⟨#[113, 117, 97, 110, 116, 105, 108, 101]⟩, ⟨#[100, 101, 99, 97, 121]⟩] (by kernel_rfl : Tryz.prog.globalNamed "asof/checker.aggregates" = some 0) (by kernel_rfl) (by kernel_rfl) a0 b0 c0 d0
  ·exact one (t := 69) ⟨#[45]⟩ [⟨#[110, 111, 116]⟩, ⟨#[110, 117, 108, 108]⟩] (by kernel_rfl : Tryz.prog.globalNamed "asof/checker.unary" = some 1) (by kernel_rfl) (by kernel_rfl) a1 b1 c1 d1
  ·exact one (t := 69) ⟨#[43]⟩ [⟨#[45]⟩, ⟨#[42]⟩, ⟨#[47]⟩, ⟨#[61, 61]⟩, ⟨#[33, 61]⟩, ⟨#[60]⟩, ⟨#[60, 61]⟩, ⟨#[97, 110, 100]⟩, ⟨#[111, 114]⟩] (by kernel_rfl : Tryz.prog.globalNamed "asof/checker.binary" = some 2) (by kernel_rfl) (by kernel_rfl) a2 b2 c2 d2
 ·obtain rfl:=List.mem_singleton.1 hg
  obtain⟨m,hm⟩:=cell_of_shapedOpen_int (P:=Tryz.prog) (g:=4) (t:=3) (zero:=#[.int .i64 0]) hsh (of_decide_eq_true (by kernel_rfl)) (by kernel_rfl) rfl (by kernel_rfl) (by kernel_rfl) Ty.un3
  exact⟨m,hm,hI _ _ _ hm⟩
theorem Qe:∀ vs:List V,vs.length≤V.bulks vs
 | []=>Nat.zero_le _
 | v::r=>by
  have:=Qe r
  have h1:1≤V.bulk v:=by
   cases v with
   | lit x=>cases x <;> simp [V.bulk]
   | list a k es=>simp [V.bulk]
   | _=>simp [V.bulk]
  simp only [V.bulks,List.length_cons];omega
theorem wQ {d:Nat} {v:List V} (h:TV Tryz.prog d 3 v):∃ n,v=[vint n]:=by
 cases d with
 | zero=>exact h.elim
 | succ d =>
  simp only [TV,Ty.un3] at h
  obtain⟨n,rfl,hw⟩:=h
  exact⟨n,rfl⟩
theorem wg {d:Nat} {v:List V} (h:TV Tryz.prog d 9 v):∃ s:Str,v=[qm s]:=by
 cases d with
 | zero=>exact h.elim
 | succ d =>
  simp only [TV,Ty.un9] at h
  obtain⟨s,rfl,_⟩:=h
  exact⟨s,rfl⟩
theorem qve {d:Nat} {vs:List V} (h:TV Tryz.prog d 35 vs):∃ v:Val,vs=[vint v.kind,vint v.n,qm v.s]:=by
 cases d with
 | zero=>exact h.elim
 | succ d =>
  simp only [TV,Tryz.underlying35,TVF] at h
  obtain⟨x1,y1,rfl,h1,x2,y2,rfl,h2,x3,y3,rfl,h3,rfl⟩:=h
  obtain⟨k,rfl⟩:=wQ h1
  obtain⟨n,rfl⟩:=wQ h2
  obtain⟨s,rfl⟩:=wg h3
  exact⟨⟨k,n,s⟩,rfl⟩
theorem Jj:∀ {zs:List V} {a:V},a ∈ zs→V.bulkA a≤V.bulkAs zs
 | b::r,a,h=>by
  rcases List.mem_cons.1 h with rfl | h
  ·simp only [V.bulkAs];omega
  ·have:=Jj h;simp only [V.bulkAs];omega
mutual
theorem yp {H:Type}:∀ d:DataW H,Rows.uptoBulk d=xg d
 | .lit (.string b)=>by simp only [Rows.uptoBulk,xg]
 | .lit (.int _ _)=>by simp only [Rows.uptoBulk,xg]
 | .lit (.bool _)=>by simp only [Rows.uptoBulk,xg]
 | .lit (.float _ _)=>by simp only [Rows.uptoBulk,xg]
 | .lit .nil=>by simp only [Rows.uptoBulk,xg]
 | .nil=>by simp only [Rows.uptoBulk,xg]
 | .ptr d=>by simp only [Rows.uptoBulk,xg,yp d]
 | .slice es sp=>by simp only [Rows.uptoBulk,xg,bulks_eq es,bulks_eq sp]
 | .agg ps=>by simp only [Rows.uptoBulk,xg,bulks_eq ps]
 | .iface _ d=>by simp only [Rows.uptoBulk,xg,yp d]
 | .map es=>by simp only [Rows.uptoBulk,xg,bulke_eq es]
 | .held _=>by simp only [Rows.uptoBulk,xg]
theorem bulks_eq {H:Type}:∀ ds:List (DataW H),Rows.uptoBulkAll ds=bulkDs ds
 | []=>by simp only [Rows.uptoBulkAll,bulkDs]
 | d::r=>by simp only [Rows.uptoBulkAll,bulkDs,yp d,bulks_eq r]
theorem bulke_eq {H:Type}:∀ es:List (Lit × DataW H),Rows.uptoBulkEntries es=bulkDe es
 | []=>by simp only [Rows.uptoBulkEntries,bulkDe]
 | x::r=>by simp only [Rows.uptoBulkEntries,bulkDe,bulkx_eq x,bulke_eq r]
theorem bulkx_eq {H:Type}:∀ x:Lit × DataW H,Rows.uptoBulkEntry x=bulkDx x
 | (.string b,d)=>by simp only [Rows.uptoBulkEntry,bulkDx,yp d]
 | (.int _ _,d)=>by simp only [Rows.uptoBulkEntry,bulkDx,yp d]
 | (.bool _,d)=>by simp only [Rows.uptoBulkEntry,bulkDx,yp d]
 | (.float _ _,d)=>by simp only [Rows.uptoBulkEntry,bulkDx,yp d]
 | (.nil,d)=>by simp only [Rows.uptoBulkEntry,bulkDx,yp d]
end
end Go.Proofs.YtohdpcjaoiebkaaGreatDoor
set_option linter.unusedSimpArgs false
namespace Go.Proofs.YtohdpcjaoiebkaaGreatDoor
open Go.VL Go.Ar Go.Lo Go.ChangeShapes Go.WideShapes Go.ChangeAt Go.RowKit
theorem own:ownKnob Tryz.prog.godebug=none:=by kernel_rfl
theorem qu8:laidOutB Tryz.prog=true:=by kernel_rfl
abbrev qB4:List TypeId:=[25,22,63,61,60,43,23,45,40,3,9,35,36,126,38,29]
theorem qDg:qb4 Tryz.prog qB4=true:=by kernel_rfl
abbrev wC:Value:=.agg #[.slice none 0 0,.slice none 0 0,.slice none 0 0,.slice none 0 0]
abbrev dC {H:Type}:DataW H:=.agg [.nil,.nil,.nil,.nil]
noncomputable def Xd (os:Os):World:=World.laidAll Tryz.prog os qqy
theorem qqx (os:Os) (args:Array Value):laidMet Tryz.prog qqy ((Xd os).forCall (fun _ _=>0) ⟨#[],args,[]⟩).memory :=
 laidMet_laidAll args (by kernel_rfl) (by kernel_rfl)
end Go.Proofs.YtohdpcjaoiebkaaGreatDoor
set_option linter.unusedSimpArgs false
set_option maxRecDepth 100000
namespace Go.Proofs.YtohdpcjaoiebkaaGreatDoor.Ct
open Go.VL Go.Ar Go.Lo Go.RowKit Go.ChangeShapes Go.WideShapes Go.Proofs.YtohdpcjaoiebkaaGreatDoor
def GF (f:Ftr):Prop:=qdv f∧qZ f.body≤big∧zj f.body≤1000000
theorem vO:∀ {l l' m m':List V},yq l l'→yq m m'→yq (l++m) (l'++m')
 | _,_,_,_,.nil,h=>h
 | _,_,_,_,.cons h r,h'=>.cons h (vO r h')
theorem vd (l m:List V):V.bulks (l++m)=V.bulks l+V.bulks m:=by
 induction l with
 | nil=>simp [V.bulks]
 | cons x l ih=>simp only [List.cons_append,V.bulks,ih];omega
theorem uG {α:Type} {t e:TypeId} {k d m:Nat} (hu:Tryz.prog.underlying t=some (.slice e)) (hk:Tryz.prog.cellsOf e=k) (c:α→List V) (G:α→Prop) (wt:α→Nat) (f:Nat)
  (inv:∀ vs,V.bulks vs≤m→TV Tryz.prog d e vs→∃ x,yq vs (c x)∧G x∧wt x≤f * V.bulks vs) (pos:∀ x,0 < (c x).length) {v:V} (h:TV Tryz.prog (d+1) t [v]) (hm:V.bulk v≤m) :
  ∃ l:List α,Le v (.list none k (l.map c))∧l.length+1≤V.bulk v∧(l.map wt).sum+f≤f * V.bulk v∧∀ x ∈ l,G x:=by
 simp only [TV,hu] at h
 rcases h with h | ⟨es,h,hmax,hes⟩
 ·cases h
  exact⟨[],Le.nil k,by simp [V.bulk],by simp [V.bulk],fun x hx=>by cases hx⟩
 ·rw [hk] at h
  cases h
  clear hmax
  have hb:V.bulk (.list none k es)=V.bulkss es+1:=by simp [V.bulk]
  rw [hb] at hm ⊢
  have:∃ l:List α,UB es (l.map c)∧l.length≤V.bulkss es∧(l.map wt).sum≤f * V.bulkss es∧∀ x ∈ l,G x:=by
   clear hb
   induction es with
   | nil=>exact⟨[],.nil,Nat.zero_le _,Nat.zero_le _,fun x hx=>by cases hx⟩
   | cons y es ih =>
    simp only [V.bulkss] at hm
    obtain⟨x,h1,h2,h3⟩:=inv y (by omega) (hes y List.mem_cons_self)
    obtain⟨l,g1,g2,g3,g4⟩:=ih (fun z hz=>hes z (List.mem_cons_of_mem _ hz)) (by omega)
    have hp:=Qe y
    rw [ZY h1] at hp
    have:=pos x
    refine⟨x::l,.cons h1 g1,?_,?_,?_⟩
    ·simp only [List.length_cons,V.bulkss];omega
    ·simp only [List.map_cons,List.sum_cons,V.bulkss,Nat.mul_add];omega
    ·intro z hz
     rcases List.mem_cons.1 hz with rfl | hz
     ·exact h2
     ·exact g4 z hz
  obtain⟨l,g1,g2,g3,g4⟩:=this
  exact⟨l,Le.lists g1,by omega,by rw [Nat.mul_add];omega,g4⟩
theorem qvi {d:Nat} {vs:List V} (h:TV Tryz.prog d 126 vs):∃ x:kK,vs=qmt x:=by
 cases d with
 | zero=>exact h.elim
 | succ d =>
  simp only [TV,Tryz.underlying126,TVF] at h
  obtain⟨x1,y1,rfl,h1,x2,y2,rfl,h2,rfl⟩:=h
  obtain⟨s,rfl⟩:=wg h1
  obtain⟨n,rfl⟩:=wQ h2
  exact⟨⟨s,n⟩,rfl⟩
theorem qvd {d:Nat} {vs:List V} (h:TV Tryz.prog d 38 vs):∃ a b:Int,vs=[vint a,vint b]:=by
 cases d with
 | zero=>exact h.elim
 | succ d =>
  simp only [TV,Tryz.underlying38,TVF] at h
  obtain⟨x1,y1,rfl,h1,x2,y2,rfl,h2,rfl⟩:=h
  obtain⟨k,rfl⟩:=wQ h1
  obtain⟨n,rfl⟩:=wQ h2
  exact⟨k,n,rfl⟩
theorem kP {d:Nat} {t e:TypeId} {vs:List V} (hu:Tryz.prog.underlying t=some (.slice e)) (h:TV Tryz.prog d t vs):∃ v d',vs=[v]∧d=d'+1:=by
 cases d with
 | zero=>exact h.elim
 | succ d =>
  simp only [TV,hu] at h
  rcases h with h | ⟨es,h,_⟩
  ·exact⟨_,_,h,rfl⟩
  ·exact⟨_,_,h,rfl⟩
mutual
theorem Jd:∀ x:E,qZ x≤zj x
 | .mk h l=>by
  have:=depths_size l
  rw [wL,qR];omega
theorem depths_size:∀ l:List E,depthEs l≤sizeEs l
 | []=>Nat.zero_le _
 | x::r=>by
  have h1:=Jd x
  have h2:=depths_size r
  simp only [depthEs,sizeEs];omega
end
theorem qai:∀ l:List E,(l.map fun x=>2 * zj x).sum=2 * sizeEs l
 | []=>rfl
 | x::r=>by
  have:=qai r
  simp only [List.map_cons,List.sum_cons,sizeEs,this];omega
abbrev gE (n:Nat) (x:E):Prop:=kI x∧2 * zj x≤n
theorem qbw {d:Nat} {vs:List V} (hb:V.bulks vs≤1048576) (h:TV Tryz.prog d 36 vs):∃ us:List kK,yq vs [qG us]∧us.length≤1048576:=by
 obtain⟨u,d',rfl,rfl⟩:=kP Ty.un36 h
 simp only [V.bulks] at hb
 obtain⟨us,u1,u2,_,_⟩:=uG (m:=1048576) Ty.un36 (by kernel_rfl:Tryz.prog.cellsOf 126=2) qmt (fun _=>True) (fun _=>0) 0 (fun vs _ h=>by obtain⟨x,rfl⟩:=qvi h;exact⟨x,yq.refl _,trivial,Nat.zero_le _⟩) (fun _=>Nat.succ_pos _) h (by omega)
 exact⟨us,.cons u1 .nil,by omega⟩
theorem qq9:∀ (d:Nat) (vs:List V),V.bulks vs≤1048576→TV Tryz.prog d 40 vs→∃ x:E,yq vs (cE x)∧kI x∧2 * zj x≤1 * V.bulks vs:=by
 intro d
 induction d using Nat.strongRecOn with
 | ind d ih =>
 intro vs hb h
 cases d with
 | zero=>exact h.elim
 | succ d =>
  simp only [TV,Tryz.underlying40,TVF] at h
  obtain⟨x1,y1,rfl,h1,x2,y2,rfl,h2,x3,y3,rfl,h3,x4,y4,rfl,h4,x5,y5,rfl,h5,x6,y6,rfl,h6,x7,y7,rfl,h7,x8,y8,rfl,h8,x9,y9,rfl,h9,rfl⟩:=h
  obtain⟨kind,rfl⟩:=wQ h1
  obtain⟨op,rfl⟩:=wg h2
  obtain⟨name,rfl⟩:=wg h3
  obtain⟨table,rfl⟩:=wg h4
  obtain⟨val,rfl⟩:=qve h5
  obtain⟨u,d',rfl,rfl⟩:=kP Ty.un36 h6
  obtain⟨param,rfl⟩:=wQ h7
  obtain⟨wk,ws,rfl⟩:=qvd h8
  obtain⟨a,_,rfl,_⟩:=kP Ty.un29 h9
  simp only [List.cons_append,List.nil_append,V.bulks] at hb
  obtain⟨us,u1,u2⟩:=qbw (by simp only [V.bulks];omega) h6
  cases u1 with
  | cons u1 _ =>
  obtain⟨la,a1,a2,a3,a4⟩:=uG (m:=1048576) Ty.un29 (by kernel_rfl:Tryz.prog.cellsOf 40=12) cE kI (fun x=>2 * zj x) 1 (fun vs hm h=>ih d' (by omega) vs hm h) (fun x=>by rw [qgw];decide) h9 (by omega)
  refine⟨.mk ⟨kind,op,name,table,val,us,param,wk,ws⟩ la,?_,?_,?_⟩
  ·rw [zq]
   exact .cons (Le.refl _) (.cons (Le.refl _) (.cons (Le.refl _) (.cons (Le.refl _) (.cons (Le.refl _) (.cons (Le.refl _) (.cons (Le.refl _) (.cons u1 (.cons (Le.refl _) (.cons (Le.refl _) (.cons (Le.refl _) (.cons a1 .nil)))))))))))
  ·exact .mk _ _ (Nat.le_trans u2 (by unfold big;decide)) (by unfold big;omega) a4
  ·rw [qR]
   rw [qai] at a3
   simp only [List.cons_append,List.nil_append,V.bulks,V.bulk]
   omega
theorem qip {d:Nat} {vs:List V} (hb:V.bulks vs≤1048576) (h:TV Tryz.prog d 43 vs):∃ t:Typ,yq vs [vint t.kind,qG t.unit,qm t.of]∧t.unit.length≤1048576:=by
 cases d with
 | zero=>exact h.elim
 | succ d =>
  simp only [TV,Tryz.underlying43,TVF] at h
  obtain⟨x1,y1,rfl,h1,x2,y2,rfl,h2,x3,y3,rfl,h3,rfl⟩:=h
  obtain⟨kind,rfl⟩:=wQ h1
  obtain⟨o,rfl⟩:=wg h3
  rw [vd,vd] at hb
  obtain⟨us,u1,u2⟩:=qbw (by omega) h2
  exact⟨⟨kind,us,o⟩,.cons (Le.refl _) (vO u1 (yq.refl _)),u2⟩
theorem qvh {d:Nat} {vs:List V} (hb:V.bulks vs≤1048576) (h:TV Tryz.prog d 60 vs):∃ f:Fld,yq vs (qA1 f)∧wv f.typ:=by
 cases d with
 | zero=>exact h.elim
 | succ d =>
  simp only [TV,Tryz.underlying60,TVF] at h
  obtain⟨x1,y1,rfl,h1,x2,y2,rfl,h2,rfl⟩:=h
  obtain⟨name,rfl⟩:=wg h1
  rw [vd,vd] at hb
  obtain⟨t,t1,t2⟩:=qip (by omega) h2
  rw [List.append_nil]
  exact⟨⟨name,t⟩,.cons (Le.refl _) t1,Nat.le_trans t2 (by unfold big;decide)⟩
theorem qvf {d:Nat} {vs:List V} (hb:V.bulks vs≤1048576) (h:TV Tryz.prog d 63 vs):∃ t:Tab,yq vs (Xu t)∧Ks t:=by
 cases d with
 | zero=>exact h.elim
 | succ d =>
  simp only [TV,Tryz.underlying63,TVF] at h
  obtain⟨x1,y1,rfl,h1,x2,y2,rfl,h2,x3,y3,rfl,h3,x4,y4,rfl,h4,rfl⟩:=h
  obtain⟨name,rfl⟩:=wg h1
  obtain⟨entity,rfl⟩:=wg h2
  obtain⟨a,d',rfl,rfl⟩:=kP Ty.un61 h3
  obtain⟨keep,rfl⟩:=wQ h4
  simp only [List.cons_append,List.nil_append,V.bulks] at hb
  obtain⟨l,l1,l2,_,l4⟩:=uG (m:=1048576) Ty.un61 (by kernel_rfl:Tryz.prog.cellsOf 60=4) qA1 (fun f=>wv f.typ) (fun _=>0) 0 (fun vs hm h=>by obtain⟨x,q1,q2⟩:=qvh hm h;exact⟨x,q1,q2,Nat.zero_le _⟩) (fun _=>Nat.succ_pos _) h3 (by omega)
  exact⟨⟨name,entity,l,keep⟩,.cons (Le.refl _) (.cons (Le.refl _) (.cons l1 (.cons (Le.refl _) .nil))),by simp only [Ks];exact⟨by unfold big;omega,l4⟩⟩
theorem qvg {d:Nat} {vs:List V} (hb:V.bulks vs≤1048576) (h:TV Tryz.prog d 45 vs):∃ f:Ftr,yq vs (uN f)∧GF f:=by
 cases d with
 | zero=>exact h.elim
 | succ d =>
  simp only [TV,Tryz.underlying45,TVF] at h
  obtain⟨x1,y1,rfl,h1,x2,y2,rfl,h2,x3,y3,rfl,h3,x4,y4,rfl,h4,x5,y5,rfl,h5,rfl⟩:=h
  obtain⟨name,rfl⟩:=wg h1
  obtain⟨entity,rfl⟩:=wg h2
  obtain⟨version,rfl⟩:=wQ h5
  simp only [vd] at hb
  obtain⟨t,t1,t2⟩:=qip (by omega) h3
  obtain⟨x,e1,e2,e3⟩:=qq9 _ x4 (by omega) h4
  have hs:zj x≤1000000:=by omega
  refine⟨⟨name,entity,t,x,version⟩,?_,⟨Nat.le_trans t2 (by unfold big;decide),e2⟩,Nat.le_trans (Jd x) (Nat.le_trans hs (by unfold big;decide)),hs⟩
  rw [qW]
  rw [qx] at e1
  exact .cons (Le.refl _) (.cons (Le.refl _) (vO t1 (vO e1 (yq.refl _))))
theorem qc6 (f:Ftr):(uN f).length=18:=by rw [qW];rfl
theorem qq8 {d:Nat} {v:V} (hb:V.bulk v≤1048576) (h:TV Tryz.prog (d+1) 22 [v]):∃ l:List Tab,Le v (qxf l)∧2 * l.length≤V.bulk v∧∀ x ∈ l,Ks x:=by
 obtain⟨l,l1,_,l3,l4⟩:=uG (m:=1048576) Ty.un22 (by kernel_rfl:Tryz.prog.cellsOf 63=4) Xu Ks (fun _=>2) 1 (fun vs hm h=>by
  obtain⟨x,q1,q2⟩:=qvf hm h
  have:=Qe vs
  rw [ZY q1,show (Xu x).length=4 from rfl] at this
  exact⟨x,q1,q2,by omega⟩) (fun _=>Nat.succ_pos _) h hb
 refine⟨l,l1,?_,l4⟩
 rw [List.map_const',List.sum_replicate_nat] at l3
 omega
theorem WT {d:Nat} {v:V} (hb:V.bulk v≤1048576) (h:TV Tryz.prog (d+1) 23 [v]):∃ l:List Ftr,Le v (kA l)∧2 * l.length≤V.bulk v∧∀ x ∈ l,GF x:=by
 obtain⟨l,l1,_,l3,l4⟩:=uG (m:=1048576) Ty.un23 (by kernel_rfl:Tryz.prog.cellsOf 45=18) uN GF (fun _=>2) 1 (fun vs hm h=>by
  obtain⟨x,q1,q2⟩:=qvg hm h
  have:=Qe vs
  rw [ZY q1,qc6] at this
  exact⟨x,q1,q2,by omega⟩) (fun x=>by rw [qc6];decide) h hb
 refine⟨l,l1,?_,l4⟩
 rw [List.map_const',List.sum_replicate_nat] at l3
 omega
theorem in_cat {d:Nat} {a:V} (h:TA Tryz.prog d 25 a) (hb:V.bulkA a≤1048576):∃ c:Cat,Le a (wT c)∧Qw 1000000 c:=by
 unfold TA at h
 simp only [Ty.ag25] at h
 obtain⟨vs,rfl,h⟩:=h
 cases d with
 | zero=>exact h.elim
 | succ d =>
  simp only [TV,Tryz.underlying25,TVF] at h
  obtain⟨x1,y1,rfl,h1,x2,y2,rfl,h2,x3,y3,rfl,h3,x4,y4,rfl,h4,rfl⟩:=h
  obtain⟨v1,d',rfl,rfl⟩:=kP Ty.un22 h1
  obtain⟨v2,_,rfl,_⟩:=kP Ty.un23 h2
  obtain⟨v3,_,rfl,_⟩:=kP Ty.un23 h3
  obtain⟨v4,_,rfl,_⟩:=kP Ty.un23 h4
  have hb':V.bulks [v1,v2,v3,v4]≤1048576:=hb
  simp only [V.bulks] at hb'
  obtain⟨l1,p1,q1,r1⟩:=qq8 (by omega) h1
  obtain⟨l2,p2,q2,r2⟩:=WT (by omega) h2
  obtain⟨l3,p3,q3,r3⟩:=WT (by omega) h3
  obtain⟨l4,p4,q4,r4⟩:=WT (by omega) h4
  refine⟨⟨l1,l2,l3,l4⟩,yj (.cons p1 (.cons p2 (.cons p3 (.cons p4 .nil)))),?_,?_,?_,?_,r1,fun f hf=>⟨(r2 f hf).1,(r2 f hf).2.1⟩,fun f hf=>⟨(r3 f hf).1,(r3 f hf).2.1⟩,fun f hf=>⟨(r4 f hf).1,(r4 f hf).2.1⟩,fun f hf=>(r2 f hf).2.2,fun f hf=>(r3 f hf).2.2,fun f hf=>(r4 f hf).2.2⟩ <;> simp only <;> omega
end Go.Proofs.YtohdpcjaoiebkaaGreatDoor.Ct
