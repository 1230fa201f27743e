/- Merged out of my text V17. -/
import Derived.Test.YtopfanlkbepemaaGreatKV16
namespace Go.VL
open Go.RowKit
section
variable {P:Program} {k k':V→Prop} (hk:∀ v,k v→k' v)
theorem onSome_mono {α:Type} {o:Option α} {k k':α→Prop} (hk:∀ v,k v→k' v):onSome o k→onSome o k':=by
 unfold onSome;cases o <;> first | exact id | exact hk _
theorem onInt_mono {v:V} {k k':IntKind→Int→Prop} (hk:∀ a b,k a b→k' a b):onInt v k→onInt v k':=by
 unfold onInt;intro h;split at h
 ·exact hk _ _ h
 ·exact h.elim
theorem onStr_mono {v:V} {k k':ByteArray→Prop} (hk:∀ a,k a→k' a):onStr v k→onStr v k':=by
 unfold onStr;intro h;split at h
 ·exact hk _ h
 ·exact h.elim
theorem onAgg_mono {v:V} {k k':List V→Prop} (hk:∀ a,k a→k' a):onAgg v k→onAgg v k':=by
 unfold onAgg;intro h;split at h
 ·exact hk _ h
 ·exact h.elim
include hk
theorem onHead_mono {cs:List V}:onHead cs k→onHead cs k':=by
 unfold onHead;intro h;split at h
 ·exact hk _ h
 ·exact h.elim
omit hk in
theorem onL_mono {v:V} {n:Nat} {K K':List (List V)→Prop} (hK:∀ a,K a→K' a):onL v n K→onL v n K':=by
 unfold onL;intro h;split at h
 ·exact⟨h.1,hK _ h.2⟩
 ·exact hK _ h
 ·exact h.elim
omit hk in
theorem onS_mono {v:V} {n:Nat} {KL KL':List (List V)→Prop} {KM KM':Nat→Nat→Nat→Nat→Prop} (hL:∀ a,KL a→KL' a) (hM:∀ b o l c,KM b o l c→KM' b o l c):onS v n KL KM→onS v n KL' KM':=by
 unfold onS;intro h;split at h
 ·exact hM _ _ _ _ h
 ·exact onL_mono hL h
omit hk in
theorem bnd_mono {x:Option V} {d:Nat} {K K':Nat→Prop} (hK:∀ a,K a→K' a):bnd x d K→bnd x d K':=by
 unfold bnd;intro h;split at h
 ·exact hK _ h
 ·exact⟨h.1,hK _ h.2⟩
 ·exact h.elim
theorem shiftP_mono {v:V} {off:Nat}:shiftP v off k→shiftP v off k':=by
 unfold shiftP;intro h;split at h
 ·exact hk _ h
 ·exact hk _ h
 ·exact h.elim
omit hk in
theorem atP_mono {S:St} {v:V} {K K':List V→Prop} (hK:∀ a,K a→K' a):atP S v K→atP S v K':=by
 unfold atP;intro h;split at h
 ·exact hK _ h
 ·split at h
  ·exact hK _ h
  ·exact h.elim
 ·exact h.elim
theorem nilK_mono {v:V}:nilK v k→nilK v k':=by
 unfold nilK;intro h;split at h
 ·exact hk _ h
 ·exact hk _ h
 ·exact hk _ h
 ·exact h.elim
omit hk in
theorem And2_mono {A B B':Prop} (h:B→B'):And2 A B→And2 A B':=fun⟨a,b⟩=>⟨a,h b⟩
theorem loadD_mono {a:Bool} {n:Nat} {cs:List V}:loadD a n cs k→loadD a n cs k':=by
 cases a
 ·exact onHead_mono hk
 ·exact And2_mono (hk _)
theorem loadK_mono {t:TypeId} {cs:List V}:loadK P t cs k→loadK P t cs k':=by
 rw [loadK_eq,loadK_eq];exact onSome_mono fun _=>onSome_mono fun _=>loadD_mono hk
theorem partD_mono {a:Bool} {n:Nat} {cs:List V}:partD a n cs k→partD a n cs k':=by
 cases a
 ·exact onHead_mono hk
 ·exact hk _
theorem partK_mono {t:TypeId} {cs:List V} {off:Nat}:partK P t cs off k→partK P t cs off k':=by
 rw [partK_eq,partK_eq];exact onSome_mono fun _=>onSome_mono fun _=>partD_mono hk
omit hk in
theorem posK_mono {n:Nat} {A A':Prop} (h:A→A'):posK n A→posK n A':=by
 cases n <;> first | exact id | exact h
theorem fieldAddrK_mono {s:TypeId} {f:Nat} {v:V}:fieldAddrK P s f v k→fieldAddrK P s f v k':=by
 rw [fieldAddrK_eq,fieldAddrK_eq];exact onSome_mono fun _=>onSome_mono fun _=>posK_mono (shiftP_mono hk)
theorem fieldK_mono {s:TypeId} {f:Nat} {v:V}:fieldK P s f v k→fieldK P s f v k':=by
 rw [fieldK_eq,fieldK_eq];exact onSome_mono fun _=>onAgg_mono fun _=>partK_mono hk
theorem idxAddrD_mono {d:TypeDesc} {v i:V}:idxAddrD P d v i k→idxAddrD P d v i k':=by
 unfold idxAddrD;intro h;split at h
 ·exact onSome_mono (fun _=>onInt_mono fun _ _=>onS_mono (fun _=>And2_mono (And2_mono (hk _))) fun _ _ _ _=>And2_mono (And2_mono (hk _))) h
 ·exact onSome_mono (fun _=>onInt_mono fun _ _=>And2_mono (And2_mono (shiftP_mono hk))) h
 ·exact h.elim
theorem idxAddrK_mono {t:TypeId} {v i:V}:idxAddrK P t v i k→idxAddrK P t v i k':=by
 rw [idxAddrK_eq,idxAddrK_eq];exact onSome_mono fun _=>idxAddrD_mono hk
theorem idxD_mono {d:TypeDesc} {v i:V}:idxD P d v i k→idxD P d v i k':=by
 unfold idxD;intro h;split at h
 ·exact onStr_mono (fun _=>onInt_mono fun _ _=>And2_mono (And2_mono (hk _))) h
 ·exact onAgg_mono (fun _=>onInt_mono fun _ _=>onSome_mono fun _=>And2_mono (And2_mono (partK_mono hk))) h
 ·exact h.elim
theorem idxK_mono {t:TypeId} {v i:V}:idxK P t v i k→idxK P t v i k':=by
 rw [idxK_eq,idxK_eq];exact onSome_mono fun _=>idxD_mono hk
theorem binK_mono {op:BinOp} {t:TypeId} {x y:V}:binK P op t x y k→binK P op t x y k':=by
 unfold binK;intro h;split at h
 ·obtain⟨e,v,h1,h2,h3⟩:=h;exact⟨e,v,h1,h2,hk _ h3⟩
 ·obtain⟨h0,e,v,h1,h2,h3⟩:=h;exact⟨h0,e,v,h1,h2,hk _ h3⟩
 ·obtain⟨v,h1,h2,h3⟩:=h;exact⟨v,h1,h2,hk _ h3⟩
 ·obtain⟨v,h1,h2⟩:=h;exact⟨v,h1,hk _ h2⟩
 ·obtain⟨l,m,b,h1,h2,h3,h4⟩:=h;exact⟨l,m,b,h1,h2,h3,hk _ h4⟩
 ·exact h.elim
theorem convD_mono {d:TypeDesc} {v:V}:convD d v k→convD d v k':=by
 unfold convD;intro h;split at h
 ·exact onInt_mono (fun _ _=>hk _) h
 ·exact onStr_mono (fun _=>hk _) h
 ·exact h.elim
theorem convK_mono {s d:TypeId} {v:V}:convK P s d v k→convK P s d v k':=by
 rw [convK_eq,convK_eq];exact onSome_mono fun _=>onSome_mono fun _=>convD_mono hk
theorem lenD_mono {d:TypeDesc} {v:V}:lenD P d v k→lenD P d v k':=by
 unfold lenD;intro h;split at h
 ·exact onStr_mono (fun _=>hk _) h
 ·exact onSome_mono (fun _=>onS_mono (fun _=>hk _) fun _ _ _ _=>hk _) h
 ·exact h.elim
theorem lenK_mono {t:TypeId} {v:V}:lenK P t v k→lenK P t v k':=by
 rw [lenK_eq,lenK_eq];exact onSome_mono fun _=>lenD_mono hk
theorem sliceD_mono {d:TypeDesc} {v:V} {lo hi mx:Option V}:sliceD P d v lo hi mx k→sliceD P d v lo hi mx k':=by
 unfold sliceD;intro h;split at h
 ·exact onStr_mono (fun _=>And2_mono (bnd_mono fun _=>bnd_mono fun _=>And2_mono (And2_mono (hk _)))) h
 ·exact onSome_mono (fun _=>onS_mono (fun _=>bnd_mono fun _=>bnd_mono fun _=>And2_mono (And2_mono (And2_mono (hk _)))) fun _ _ _ _=>bnd_mono fun _=>bnd_mono fun _=>bnd_mono fun _=>And2_mono (And2_mono (And2_mono (And2_mono (hk _))))) h
 ·exact h.elim
theorem sliceK_mono {t:TypeId} {v:V} {lo hi mx:Option V}:sliceK P t v lo hi mx k→sliceK P t v lo hi mx k':=by
 rw [sliceK_eq,sliceK_eq];exact onSome_mono fun _=>sliceD_mono hk
theorem capK_mono {t:TypeId} {v:V}:capK P t v k→capK P t v k':=by
 unfold capK;intro h;split at h
 ·exact hk _ h
 ·exact h.elim
theorem buildK_mono {t:TypeId} {ps:List (Nat × V)}:buildK P t ps k→buildK P t ps k':=by
 rw [buildK_eq,buildK_eq];exact onSome_mono fun _=>onSome_mono fun _=>hk _
theorem callK_mono {f:V} {as:List V}:callK P f as k→callK P f as k':=by
 unfold callK;intro h;split at h
 ·exact⟨h.1,h.2.imp fun v h=>⟨h.1,hk _ h.2⟩⟩
 ·exact h.elim
theorem buildSliceD_mono {t:TypeId} {n:Nat} {ps:List (Nat × V)}:buildSliceD P t n ps k→buildSliceD P t n ps k':=by
 rw [buildSliceD_eq,buildSliceD_eq]
 refine onSome_mono fun u=>?_
 cases u <;> first | exact id | exact onSome_mono fun _=>onSome_mono fun _=>And2_mono (onSome_mono fun _=>And2_mono (hk _))
theorem detF_mono {S:St} {o:Oper}:detF P S o k→detF P S o k':=by
 intro h
 unfold detF at h ⊢
 split at h <;> rename_i heq <;> try simp only [heq]
 ·exact hk _ h
 ·exact hk _ h
 ·split at h
  ·exact hk _ h
  ·exact h.elim
 ·exact atP_mono (fun _=>loadK_mono hk) h
 ·exact fieldAddrK_mono hk h
 ·exact fieldK_mono hk h
 ·exact idxAddrK_mono hk h
 ·exact idxK_mono hk h
 ·exact binK_mono hk h
 ·split at h
  ·exact h.imp fun v h=>⟨h.1,hk _ h.2⟩
  ·exact h.elim
 ·exact convK_mono hk h
 ·split at h
  ·split at h
   ·exact hk _ h
   ·exact h.elim
  ·exact h.elim
 ·exact sliceK_mono hk h
 ·exact⟨h.1,buildK_mono hk h.2⟩
 ·obtain⟨l,m,h1,h2,h3⟩:=h;exact⟨l,m,h1,h2,hk _ h3⟩
 ·exact nilK_mono hk h
 ·split at h <;> rename_i hc <;> try simp only [hc]
  ·split at h
   ·exact lenK_mono hk h
   ·exact h.elim
  ·split at h
   ·exact capK_mono hk h
   ·exact h.elim
  ·split at h
   ·exact hk _ h
   ·exact h.elim
  ·split at h
   ·exact hk _ h
   ·exact h.elim
  ·exact callK_mono hk h
  ·exact h.elim
 ·exact h.elim
theorem detG_mono {S:St} {o:Oper}:detG P S o k→detG P S o k':=by
 intro h
 unfold detG at h ⊢
 split at h
 ·exact buildSliceD_mono hk h
 ·exact detF_mono hk h
end
section
variable {P:Program} {S:St} {d:Option Nat} {K K':St→Prop} (hK:∀ S,K S→K' S)
include hK
theorem allocK_mono {t:TypeId}:allocK P S d t K→allocK P S d t K':=by
 unfold allocK;intro h;split at h
 ·exact⟨h.1,fun b hb=>hK _ (h.2 b hb)⟩
 ·exact h.elim
theorem boxK_mono {v:V}:boxK S d v K→boxK S d v K':=by
 unfold boxK;intro h;split at h
 ·exact⟨h.1,fun b hb=>hK _ (h.2 b hb)⟩
 ·exact h.elim
theorem storeK_mono {t:TypeId} {p v:V}:storeK P S d t p v K→storeK P S d t p v K':=by
 rw [storeK_eq,storeK_eq]
 unfold onPtr
 intro h
 split at h
 ·exact onSome_mono (fun _=>onSome_mono fun _=>onSome_mono fun _=>And2_mono (hK _)) h
 ·exact h.elim
theorem buildSliceK_mono {t:TypeId} {n:Nat} {ps:List (Nat × V)}:buildSliceK P S d t n ps K→buildSliceK P S d t n ps K':=by
 rw [buildSliceK_eq,buildSliceK_eq]
 refine onSome_mono fun u=>?_
 cases u <;> first | exact id | exact onSome_mono fun _=>onSome_mono fun _=>And2_mono (onSome_mono fun _=>And2_mono fun h y=>hK _ (h y))
omit hK in
theorem takeR_mono:∀ {l:List Row} {y:Value} {L L':Row→List Row→Prop},(∀ r rs,L r rs→L' r rs)→takeR l y L→takeR l y L'
 | [],_,_,_,_,h=>h
 | r::_,_,_,_,hL,h=>h.imp (fun h=>⟨h.1,hL _ _ h.2⟩) (takeR_mono fun r' rs'=>hL r' (r::rs'))
theorem appD_mono {k by_:Nat} {e:TypeId} {s:V} {fs:List (List V)}:appD S d k by_ e s fs K→appD S d k by_ e s fs K':=by
 unfold appD;intro h;split at h
 ·exact⟨h.1,fun y=>hK _ (h.2 y)⟩
 ·exact⟨h.1,takeR_mono (fun r rs h=>⟨h.1,fun y=>hK _ (h.2 y)⟩) h.2⟩
 ·exact h.elim
theorem appendK_mono {t:TypeId} {s x:V}:appendK P S d t s x K→appendK P S d t s x K':=by
 rw [appendK_eq,appendK_eq]
 refine onSome_mono fun u=>?_
 cases u <;> first | exact id | exact onSome_mono fun _=>onSome_mono fun _=>onSome_mono fun _=>And2_mono (onL_mono fun _=>appD_mono hK)
theorem callE_mono {f:V} {as:List V}:callE P S d f as K→callE P S d f as K':=by
 unfold callE;intro h;split at h
 ·split at h
  ·obtain⟨bs,lf,hp,h⟩:=h
   exact⟨bs,lf,hp,Ok.mono h fun _ _ _ hk hn=>hK _ (hk hn)⟩
  ·obtain⟨v,h,hk⟩:=h
   exact⟨v,h,hK _ hk⟩
 ·obtain⟨bs,lf,hp,h⟩:=h
  exact⟨bs,lf,hp,OkY.mono h fun _ _ _ hk hn=>hK _ (hk hn)⟩
 ·exact h.elim
omit hK in
theorem onIf_mono {c:Prop} [Decidable c] {A A' B B':Prop} (hA:A→A') (hB:B→B'):onIf c A B→onIf c A' B':=by
 unfold onIf;intro h
 by_cases hc:c
 ·rw [if_pos hc] at h ⊢;exact hA h
 ·rw [if_neg hc] at h ⊢;exact hB h
theorem appMD_mono {k by_ m:Nat} {s:V} {fs:List V}:appMD S d k by_ s m fs K→appMD S d k by_ s m fs K':=by
 unfold appMD;intro h;split at h
 ·exact onIf_mono (hK _) (fun h=>⟨h.1,fun b c h1 h2=>hK _ (h.2 b c h1 h2)⟩) h
 ·split at h
  ·exact⟨h.1,h.2.1,onIf_mono (hK _) (fun h=>⟨h.1,fun b c h1 h2=>hK _ (h.2 b c h1 h2)⟩) h.2.2⟩
  ·exact h.elim
 ·exact h.elim
theorem appMK_mono {t tx:TypeId} {s x:V}:appMK P S d t tx s x K→appMK P S d t tx s x K':=by
 unfold appMK;intro h;split at h
 ·split at h
  ·exact⟨h.1,h.2.1,h.2.2.1,srcK_imp h.2.2.2 fun _ _=>appMD_mono hK⟩
  ·exact h.elim
 ·exact h.elim
theorem appAD_mono {k by_ m:Nat} {s:V} {fs:List V}:appAD S d k by_ s m fs K→appAD S d k by_ s m fs K':=by
 unfold appAD;intro h;split at h
 ·exact⟨h.1,h.2.1,fun b c h1 h2=>hK _ (h.2.2 b c h1 h2)⟩
 ·split at h
  ·exact⟨h.1,h.2.1,h.2.2.1,fun b c h1 h2=>hK _ (h.2.2.2 b c h1 h2)⟩
  ·exact h.elim
 ·exact h.elim
theorem appAK_mono {t tx:TypeId} {s x:V}:appAK P S d t tx s x K→appAK P S d t tx s x K':=by
 rw [appAK_eq,appAK_eq]
 refine onSome_mono fun u=>?_
 cases u <;> first | exact id | exact onSome_mono fun _=>onSome_mono fun _=>onSome_mono fun _=>And2_mono fun h=>srcK_imp h fun _ _=>appAD_mono hK
theorem appZK_mono {t tx:TypeId} {s x:V}:appZK P S d t tx s x K→appZK P S d t tx s x K':=by
 unfold appZK;intro h;split at h
 ·split at h
  ·obtain⟨h1,h2,h3,h4,h5,h6,h7,h8,h⟩:=h
   exact⟨h1,h2,h3,h4,h5,h6,h7,h8,fun b c q1 q2=>hK _ (h b c q1 q2)⟩
  ·exact h.elim
 ·exact h.elim
theorem clearK_mono {t:TypeId} {s:V}:clearK P S d t s K→clearK P S d t s K':=by
 unfold clearK;intro h;split at h
 ·split at h
  ·exact hK _ h
  ·refine⟨fun e=>hK _ (h.1 e),fun e=>?_⟩
   have h:=h.2 e
   split at h
   ·exact⟨h.1,h.2.1,h.2.2.1,hK _ h.2.2.2⟩
   ·exact h.elim
  ·exact h.elim
 ·exact h.elim
theorem copyK_mono {t tx:TypeId} {s x:V}:copyK P S d t tx s x K→copyK P S d t tx s x K':=by
 unfold copyK;intro h;split at h
 ·split at h
  ·refine srcK_imp h fun m fs h=>?_
   split at h
   ·exact hK _ h
   ·split at h
    ·exact⟨h.1,hK _ h.2⟩
    ·exact h.elim
   ·exact h.elim
  ·exact h.elim
 ·exact h.elim
theorem makeSliceK_mono {t:TypeId} {l c:V}:makeSliceK P S d t l c K→makeSliceK P S d t l c K':=by
 unfold makeSliceK;intro h;split at h
 ·split at h
  ·obtain⟨h1,h2,h3,h4,h5,h6,h7,h⟩:=h
   exact⟨h1,h2,h3,h4,h5,h6,h7,fun b q=>hK _ (h b q)⟩
  ·exact h.elim
 ·exact h.elim
theorem appSK_mono {t tx:TypeId} {s:V} {b:ByteArray}:appSK P S d t tx s b K→appSK P S d t tx s b K':=by
 rw [appSK_eq,appSK_eq]
 refine onSome_mono fun u=>?_
 cases u <;> first | exact id | exact onSome_mono fun _=>onSome_mono fun _=>onSome_mono fun _=>And2_mono (appD_mono hK)
theorem appendAny_mono {t tx:TypeId} {s x:V}:appendAny P S d t tx s x K→appendAny P S d t tx s x K':=by
 unfold appendAny;intro h;split at h
 ·exact appZK_mono hK h
 ·exact h.imp (appMK_mono hK) (appAK_mono hK)
 ·exact h.imp (fun h=>⟨h.1,appendK_mono hK h.2⟩) (appAK_mono hK)
 ·exact appSK_mono hK h
 ·exact⟨h.1,appendK_mono hK h.2⟩
theorem makeMapK_mono {t:TypeId} {r:Option V}:makeMapK P S d t r K→makeMapK P S d t r K':=by
 unfold makeMapK;intro h;split at h
 ·exact⟨h.1,fun b hb=>hK _ (h.2 b hb)⟩
 ·exact h.elim
omit hK in
theorem onFind_mono {o:Option V} {A A':V→Prop} {B B':Prop} {p q p' q'} (hA:∀ v,A v→A' v) (hB:B→B'):onFind o A B p q→onFind o A' B' p' q':=by
 unfold onFind;cases o <;> first | exact hB | exact hA _
omit hK in
theorem lookK_mono {t:TypeId} {x k:V} {ok:Bool} {K K':V→Prop} (hK:∀ v,K v→K' v):lookK P S t x k ok K→lookK P S t x k ok K':=by
 unfold lookK;intro h;split at h
 ·split at h
  ·refine⟨h.1,?_⟩
   replace h:=h.2
   unfold lookD at h ⊢
   split at h
   ·exact hK _ h
   ·split at h
    ·exact⟨h.1,onFind_mono (fun _=>hK _) (hK _) h.2⟩
    ·exact h.elim
   ·exact h.elim
  ·exact h.elim
 ·exact h.elim
theorem updK_mono {t:TypeId} {x k v:V}:updK P S d t x k v K→updK P S d t x k v K':=by
 unfold updK;intro h;split at h
 ·split at h
  ·refine⟨h.1,?_⟩
   replace h:=h.2
   unfold updD at h ⊢
   split at h
   ·split at h
    ·exact⟨h.1,onFind_mono (fun _=>hK _) (hK _) h.2⟩
    ·exact h.elim
   ·exact h.elim
  ·exact h.elim
 ·exact h.elim
omit hK in
theorem onEnt_mono {o:Option Ent} {A A':Ent→Prop} {B B':Prop} {p q p' q'} (hA:∀ v,A v→A' v) (hB:B→B'):onEnt o A B p q→onEnt o A' B' p' q':=by
 unfold onEnt;cases o <;> first | exact hB | exact hA _
theorem mentK_mono {t:TypeId} {x k:V}:mentK P S d t x k K→mentK P S d t x k K':=by
 unfold mentK;intro h;split at h
 ·split at h
  ·refine⟨h.1,?_⟩
   replace h:=h.2
   unfold mentD at h ⊢
   split at h
   ·split at h
    ·exact⟨h.1,onEnt_mono (fun _=>hK _) (hK _) h.2⟩
    ·exact h.elim
   ·exact h.elim
  ·exact h.elim
 ·exact h.elim
theorem estD_mono {x s v:V}:estD S d x s v K→estD S d x s v K':=by
 unfold estD;intro h;split at h
 ·split at h
  ·exact⟨h.1,hK _ h.2⟩
  ·exact h.elim
 ·exact h.elim
theorem rangeK_mono {t:TypeId} {x:V}:rangeK P S d t x K→rangeK P S d t x K':=by
 unfold rangeK;intro h;split at h
 ·split at h
  ·exact fun ib hb=>hK _ (h ib hb)
  ·exact h.elim
 ·exact h.elim
theorem nextK_mono {x:V}:nextK S d x K→nextK S d x K':=by
 unfold nextK;intro h;split at h
 ·split at h
  ·split at h
   ·exact⟨h.1,fun he=>hK _ (h.2.1 he),fun e he hf=>hK _ (h.2.2 e he hf)⟩
   ·exact h.elim
  ·exact h.elim
 ·exact h.elim
omit hK in
theorem entryK_mono {x:V} {K K':V→Prop} (hK:∀ v,K v→K' v):entryK S x K→entryK S x K':=by
 unfold entryK;intro h;split at h
 ·split at h
  ·split at h
   ·split at h
    ·exact⟨h.1,hK _ h.2⟩
    ·exact h.elim
   ·exact h.elim
  ·exact h.elim
 ·exact h.elim
omit hK in
theorem bytesD_mono {e:TypeId} {v:V} {K K':V→Prop} (hK:∀ v,K v→K' v):bytesD P S e v K→bytesD P S e v K':=by
 unfold bytesD;intro h;split at h
 ·exact⟨h.1,hK _ h.2⟩
 ·refine⟨h.1,?_⟩
  have:=h.2
  split at this
  ·obtain⟨h1,ns,h2,h3⟩:=this;exact⟨h1,ns,h2,hK _ h3⟩
  ·exact this.elim
 ·obtain⟨h1,h2,h3,ns,h4,h5⟩:=h;exact⟨h1,h2,h3,ns,h4,hK _ h5⟩
 ·exact h.elim
omit hK in
theorem convB_mono {s t:TypeId} {v:V} {K K':V→Prop} (hK:∀ v,K v→K' v):convB P S s t v K→convB P S s t v K':=by
 unfold convB;intro h;split at h
 ·exact bytesD_mono hK h
 ·unfold strB at h ⊢
  split at h
  ·exact⟨h.1,hK _ h.2⟩
  ·exact h.elim
 ·exact convK_mono hK h
theorem aOp_mono {o:Oper}:aOp P S o K→aOp P S o K':=by
 unfold aOp;intro h;split at h
 ·exact allocK_mono hK h
 ·exact boxK_mono hK h
 ·exact storeK_mono hK h
 ·unfold buildAny at h ⊢
  split at h
  ·exact h.imp (buildSliceK_mono hK) (makeSliceK_mono hK)
  ·exact buildSliceK_mono hK h
 ·exact makeSliceK_mono hK h
 ·exact makeMapK_mono hK h
 ·exact lookK_mono (fun _=>hK _) h
 ·exact updK_mono hK h
 ·exact mentK_mono hK h
 ·exact estD_mono hK h
 ·exact rangeK_mono hK h
 ·exact nextK_mono hK h
 ·exact entryK_mono (fun _=>hK _) h
 ·exact convB_mono (fun _=>hK _) h
 ·split at h
  ·split at h
   ·exact appendAny_mono hK h
   ·exact h.elim
  ·split at h
   ·exact copyK_mono hK h
   ·exact h.elim
  ·split at h
   ·exact clearK_mono hK h
   ·exact h.elim
  ·exact callE_mono hK h
  ·exact detG_mono (fun _=>hK _) h
 ·exact detG_mono (fun _=>hK _) h
theorem aOps_mono {ops:Array Oper}:∀ {l:List Oper} {S:St},aOps P ops K l S→aOps P ops K' l S
 | [],_,h=>hK _ h
 | o::r,S,h=>by
  simp only [aOps] at h ⊢
  split at h
  ·exact aOp_mono (fun S'=>aOps_mono) h
  ·exact aOps_mono h
  ·exact h.elim
theorem dOps_mono {ops:Array Oper}:∀ {l:List Oper} {S:St},dOps P ops K l S→dOps P ops K' l S
 | [],_,h=>hK _ h
 | o::r,S,h=>by
  simp only [dOps] at h ⊢
  split at h
  ·exact detG_mono (fun v=>dOps_mono) h
  ·exact dOps_mono h
  ·exact h.elim
end
theorem gSeq_mono {P:Program} {hc:Option Bool} {ops:Array Oper} {K K':St→Prop} (hK:∀ S,K S→K' S):∀ {l:List Oper} {S:St},gSeq P hc ops K l S→gSeq P hc ops K' l S
 | [],_,h=>hK _ h
 | _::_,_,h=>gStep_imp h fun _ h' _ _=>gSeq_mono hK h'
theorem cwp_mono {C:Ctx}:∀ {c:Code} {S:St} {Q Q':Exit→St→Prop},(∀ e S,Q e S→Q' e S)→cwp C c S Q→cwp C c S Q'
 | .skip,S,Q,Q',hq,h=>by simp only [cwp] at h ⊢;exact hq _ _ h
 | .label _,S,Q,Q',hq,h=>by simp only [cwp] at h ⊢;exact hq _ _ h
 | .exit i,S,Q,Q',hq,h=>by simp only [cwp] at h ⊢;exact hq _ _ h
 | .ret,S,Q,Q',hq,h=>by simp only [cwp] at h ⊢;exact hq _ _ h
 | .seq x y,S,Q,Q',hq,h=>by
  simp only [cwp] at h ⊢
  refine cwp_mono (fun e S' h'=>?_) h
  cases e <;> first | exact cwp_mono hq h' | exact hq _ _ h'
 | .cond c x y,S,Q,Q',hq,h=>by
  simp only [cwp] at h ⊢
  split at h
  ·rename_i b _
   cases b <;> simp only [if_true,if_false,Bool.false_eq_true] at h ⊢ <;> exact cwp_mono hq h
  ·exact h.elim
 | .block id c,S,Q,Q',hq,h=>by
  simp only [cwp] at h ⊢
  refine cwp_mono (fun e S' h'=>?_) h
  cases e <;> simp only [ablock] at h' ⊢ <;> first | exact hq _ _ h' | (split at h' <;> rename_i e <;> simp only [e,if_true,if_false] <;> exact hq _ _ h')
 | .scope c,S,Q,Q',hq,h=>by
  simp only [cwp] at h ⊢
  refine cwp_mono (fun e S' h'=>?_) h
  cases e <;> first | exact h'.elim | exact hq _ _ h'
 | .region _ ops false,S,Q,Q',hq,h=>by simp only [cwp] at h ⊢;exact aOps_mono (hq _) h
 | .region _ ops true,S,Q,Q',hq,h=>by
  simp only [cwp] at h ⊢
  split at h
  ·exact dOps_mono (fun S'=>aOps_mono (hq _)) h
  ·exact gSeq_mono (hq _) h
  ·exact gSeq_mono (hq _) h
  ·exact gSeq_mono (hq _) h
  ·exact AWP.mono h hq
 | .loop c,S,Q,Q',hq,h=>by simp only [cwp] at h ⊢;exact AWP.mono h hq
 | .rangeFunc _ _ _ _,S,Q,Q',hq,h=>by simp only [cwp] at h ⊢;exact AWP.mono h hq
 | .goto _,S,Q,Q',hq,h=>by simp only [cwp] at h ⊢;exact AWP.mono h hq
 | .refuse _,S,Q,Q',hq,h=>by simp only [cwp] at h ⊢;exact AWP.mono h hq
inductive LeL:List V→List V→Prop
 | nil:LeL [] []
 | cons {v v':V} {l l':List V} (h:Le v v') (r:LeL l l'):LeL (v::l) (v'::l')
theorem LeL.reps:∀ {l l':List V},LeL l l'→∀ {w I xs},V.reps w I l xs→V.reps w I l' xs
 | _,_,.nil,_,_,_,h=>h
 | _,_,.cons h r,w,I,[],h'=>by simp [V.reps] at h'
 | _,_,.cons h r,w,I,x::xs,h'=>by simp only [V.reps] at h' ⊢;exact⟨h w I x h'.1,r.reps h'.2⟩
theorem Ok.le {P:Program} {f:FuncId} {as as':List V} {bs:List (Nat × B)} {Q:V→List (Nat × B)→List Row→Prop} (hl:LeL as as') (h:Ok P f as' bs Q):Ok P f as bs Q :=
 fun w I xs hr hb=>h w I xs (hl.reps hr) hb
theorem OkF_le {P:Program} {g:FuncId} {as as':List V} {Q:V→List (Nat × B)→List Row→Prop} {p:Fix Q} (hl:LeL as as') {bx:List (Nat × B)} (v:V) (h:OkP P g as' v) (hk:Q v bx []):OkF P g as bx Q p :=
 OkF_of v (Ok.le hl h) hk
theorem EX_cut {C:Ctx} {c:Code} {k:List It} {S:St} {Q:Exit→St→Prop} (M:St→Prop) (h:EX C (.code c::.stop M::k) S Q) (hM:∀ S',M S'→EX C k S' Q):EX C (.code c::k) S Q:=by
 refine cwp_mono (c:=c) (fun e S' h'=>?_) h
 cases e <;> first | exact hM _ h' | exact h'
end Go.VL
