/- Merged out of my text V17. -/
import Derived.Test.YtohdpcjaoiebkaaGreatDoorKV16
set_option linter.unusedSimpArgs false
set_option linter.unusedVariables false
namespace Go.VL
open Go.RowKit
section
variable {P:Program} {k k':V→Prop} (hk:∀ v,k v→k' v)
theorem qo {α:Type} {o:Option α} {k k':α→Prop} (hk:∀ v,k v→k' v):qj o k→qj o k':=by
 unfold qj;cases o <;> first | exact id | exact hk _
theorem jR {v:V} {k k':IntKind→Int→Prop} (hk:∀ a b,k a b→k' a b):xB v k→xB v k':=by
 unfold xB;intro h;split at h
 ·exact hk _ _ h
 ·exact h.elim
theorem vy {v:V} {k k':ByteArray→Prop} (hk:∀ a,k a→k' a):jr v k→jr v k':=by
 unfold jr;intro h;split at h
 ·exact hk _ h
 ·exact h.elim
theorem WB {v:V} {k k':List V→Prop} (hk:∀ a,k a→k' a):uC v k→uC v k':=by
 unfold uC;intro h;split at h
 ·exact hk _ h
 ·exact h.elim
include hk
theorem X0 {cs:List V}:ji cs k→ji cs k':=by
 unfold ji;intro h;split at h
 ·exact hk _ h
 ·exact h.elim
omit hk in
theorem qa7 {v:V} {n:Nat} {K K':List (List V)→Prop} (hK:∀ a,K a→K' a):onL v n K→onL v n K':=by
 unfold onL;intro h;split at h
 ·exact⟨h.1,hK _ h.2⟩
 ·exact hK _ h
 ·exact h.elim
omit hk in
theorem Wz {v:V} {n:Nat} {KL KL':List (List V)→Prop} {KM KM':Nat→Nat→Nat→Nat→Prop} (hL:∀ a,KL a→KL' a) (hM:∀ b o l c,KM b o l c→KM' b o l c):onS v n KL KM→onS v n KL' KM':=by
 unfold onS;intro h;split at h
 ·exact hM _ _ _ _ h
 ·exact qa7 hL h
omit hk in
theorem kG {x:Option V} {d:Nat} {K K':Nat→Prop} (hK:∀ a,K a→K' a):bnd x d K→bnd x d K':=by
 unfold bnd;intro h;split at h
 ·exact hK _ h
 ·exact⟨h.1,hK _ h.2⟩
 ·exact h.elim
theorem XU {v:V} {off:Nat}:shiftP v off k→shiftP v off k':=by
 unfold shiftP;intro h;split at h
 ·exact hk _ h
 ·exact hk _ h
 ·exact h.elim
omit hk in
theorem qsv {S:St} {v:V} {K K':List V→Prop} (hK:∀ a,K a→K' a):atP S v K→atP S v K':=by
 unfold atP;intro h;split at h
 ·exact hK _ h
 ·split at h
  ·exact hK _ h
  ·exact h.elim
 ·exact h.elim
theorem qkq {v:V}:nilK v k→nilK v k':=by
 unfold nilK;intro h;split at h
 ·exact hk _ h
 ·exact hk _ h
 ·exact hk _ h
 ·exact h.elim
omit hk in
theorem qD {A B B':Prop} (h:B→B'):qy A B→qy A B':=fun⟨a,b⟩=>⟨a,h b⟩
theorem qft {a:Bool} {n:Nat} {cs:List V}:X5 a n cs k→X5 a n cs k':=by
 cases a
 ·exact X0 hk
 ·exact qD (hk _)
theorem qfs {t:TypeId} {cs:List V}:loadK P t cs k→loadK P t cs k':=by
 rw [yT,yT];exact qo fun _=>qo fun _=>qft hk
theorem qev {a:Bool} {n:Nat} {cs:List V}:XY a n cs k→XY a n cs k':=by
 cases a
 ·exact X0 hk
 ·exact hk _
theorem Ws {t:TypeId} {cs:List V} {off:Nat}:partK P t cs off k→partK P t cs off k':=by
 rw [Wt,Wt];exact qo fun _=>qo fun _=>qev hk
omit hk in
theorem qkg {n:Nat} {A A' Z Z':Prop} (h:A→A') (h':Z→Z'):qa0 n A Z→qa0 n A' Z':=by
 cases n
 ·exact h'
 ·exact h
theorem qd2 {bx:List (Nat × B)} {s:TypeId} {f:Nat} {v:V}:zeroP P bx s f v k→zeroP P bx s f v k':=by
 unfold zeroP;intro h;split at h
 ·split at h
  ·exact⟨h.1,hk _ h.2⟩
  ·exact h.elim
 ·exact h.elim
theorem vY {bx:List (Nat × B)} {s:TypeId} {f:Nat} {v:V}:fieldAddrK P bx s f v k→fieldAddrK P bx s f v k':=by
 rw [xN,xN];exact qo fun _=>qo fun _=>qkg (XU hk) (qd2 hk)
theorem qcl {s:TypeId} {f:Nat} {v:V}:fieldK P s f v k→fieldK P s f v k':=by
 rw [Xm,Xm];exact qo fun _=>WB fun _=>Ws hk
theorem J8 {d:TypeDesc} {v i:V}:xK P d v i k→xK P d v i k':=by
 unfold xK;intro h;split at h
 ·exact qo (fun _=>jR fun _ _=>Wz (fun _=>qD (qD (hk _))) fun _ _ _ _=>qD (qD (hk _))) h
 ·exact qo (fun _=>jR fun _ _=>qD (qD (XU hk))) h
 ·exact h.elim
theorem J7 {t:TypeId} {v i:V}:idxAddrK P t v i k→idxAddrK P t v i k':=by
 rw [uJ,uJ];exact qo fun _=>J8 hk
theorem qli {d:TypeDesc} {v i:V}:V5 P d v i k→V5 P d v i k':=by
 unfold V5;intro h;split at h
 ·exact vy (fun _=>jR fun _ _=>qD (qD (hk _))) h
 ·exact WB (fun _=>jR fun _ _=>qo fun _=>qD (qD (Ws hk))) h
 ·exact h.elim
theorem qlg {t:TypeId} {v i:V}:idxK P t v i k→idxK P t v i k':=by
 rw [V4,V4];exact qo fun _=>qli hk
theorem qmy {op:BinOp} {t:TypeId} {x y:V}:binK P op t x y k→binK P op t x y k':=by
 unfold binK;intro h;split at h
 ·obtain⟨e,v,h1,h2,h3⟩:=h;exact⟨e,v,h1,h2,hk _ h3⟩
 ·obtain⟨h0,e,v,h1,h2,h3⟩:=h;exact⟨h0,e,v,h1,h2,hk _ h3⟩
 ·obtain⟨v,h1,h2,h3⟩:=h;exact⟨v,h1,h2,hk _ h3⟩
 ·obtain⟨v,h1,h2⟩:=h;exact⟨v,h1,hk _ h2⟩
 ·obtain⟨l,m,b,h1,h2,h3,h4⟩:=h;exact⟨l,m,b,h1,h2,h3,hk _ h4⟩
 ·exact h.elim
theorem qgn {d:TypeDesc} {v:V}:ZR d v k→ZR d v k':=by
 unfold ZR;intro h;split at h
 ·exact jR (fun _ _=>hk _) h
 ·exact vy (fun _=>hk _) h
 ·exact h.elim
theorem Je {s d:TypeId} {v:V}:convK P s d v k→convK P s d v k':=by
 rw [ZQ,ZQ];exact qo fun _=>qo fun _=>qgn hk
theorem qk5 {d:TypeDesc} {v:V}:J5 P d v k→J5 P d v k':=by
 unfold J5;intro h;split at h
 ·exact vy (fun _=>hk _) h
 ·exact qo (fun _=>Wz (fun _=>hk _) fun _ _ _ _=>hk _) h
 ·exact h.elim
theorem Y5 {t:TypeId} {v:V}:lenK P t v k→lenK P t v k':=by
 rw [KC,KC];exact qo fun _=>qk5 hk
theorem qk4 {S:St} {v:V}:Kn S v k→Kn S v k':=by
 unfold Kn;intro h;split at h
 ·split at h
  ·exact hk _ h
  ·exact h.elim
 ·exact h.elim
theorem qk3 {S:St} {t:TypeId} {v:V}:J4 P S t v k→J4 P S t v k':=by
 unfold J4;intro h
 split at h
 ·rename_i e;rw [if_pos e];exact qk4 hk h
 ·rename_i e;rw [if_neg e];exact Y5 hk h
omit hk in
theorem qe5 {v:V} {k k':Nat→Nat→Prop} (h:∀ b o,k b o→k' b o):QF v k→QF v k':=by
 unfold QF
 split
 ·exact h _ _
 ·exact id
theorem qaf {d:TypeDesc} {v:V} {lo hi mx:Option V}:wb P d v lo hi mx k→wb P d v lo hi mx k':=by
 unfold wb;intro h;split at h
 ·exact vy (fun _=>qD (kG fun _=>kG fun _=>qD (qD (hk _)))) h
 ·exact qo (fun _=>Wz (fun _=>kG fun _=>kG fun _=>qD (qD (qD (hk _)))) fun _ _ _ _=>kG fun _=>kG fun _=>kG fun _=>qD (qD (qD (qD (hk _))))) h
 ·exact qo (fun _=>qe5 fun _ _=>kG fun _=>kG fun _=>kG fun _=>qD (qD (qD (qD (hk _))))) h
 ·exact h.elim
theorem qae {t:TypeId} {v:V} {lo hi mx:Option V}:sliceK P t v lo hi mx k→sliceK P t v lo hi mx k':=by
 rw [Z5,Z5];exact qo fun _=>qaf hk
theorem qmp {t:TypeId} {v:V}:capK P t v k→capK P t v k':=by
 unfold capK;intro h;split at h
 ·exact hk _ h
 ·exact h.elim
theorem qc9 {t:TypeId} {ps:List (Nat × V)}:buildK P t ps k→buildK P t ps k':=by
 rw [Xw,Xw];exact qo fun _=>qo fun _=>hk _
theorem qgt {f:V} {as:List V}:callK P f as k→callK P f as k':=by
 unfold callK;intro h;split at h
 ·exact⟨h.1,h.2.imp fun v h=>⟨h.1,hk _ h.2⟩⟩
 ·exact h.elim
theorem Xv {t:TypeId} {n:Nat} {ps:List (Nat × V)}:buildSliceD P t n ps k→buildSliceD P t n ps k':=by
 rw [j2,j2]
 refine qo fun u=>?_
 cases u <;> first | exact id | exact qo fun _=>qo fun _=>qD (qo fun _=>qD (hk _))
theorem qmb {S:St} {o:Oper}:detF P S o k→detF P S o k':=by
 intro h
 unfold detF at h ⊢
 split at h <;> rename_i heq <;> try simp only [heq]
 ·exact hk _ h
 ·exact hk _ h
 ·split at h
  ·exact hk _ h
  ·exact h.elim
 ·exact qsv (fun _=>qfs hk) h
 ·exact vY hk h
 ·exact qcl hk h
 ·exact J7 hk h
 ·exact qlg hk h
 ·exact qmy hk h
 ·split at h
  ·exact h.imp fun v h=>⟨h.1,hk _ h.2⟩
  ·exact h.elim
 ·exact Je hk h
 ·split at h
  ·split at h
   ·exact hk _ h
   ·exact h.elim
  ·exact h.elim
 ·exact qae hk h
 ·exact⟨h.1,qc9 hk h.2⟩
 ·obtain⟨l,m,h1,h2,h3⟩:=h;exact⟨l,m,h1,h2,hk _ h3⟩
 ·exact qkq hk h
 ·split at h <;> rename_i hc <;> try simp only [hc]
  ·split at h
   ·exact Y5 hk h
   ·exact h.elim
  ·split at h
   ·exact qmp hk h
   ·exact h.elim
  ·split at h
   ·exact hk _ h
   ·exact h.elim
  ·split at h
   ·exact hk _ h
   ·exact h.elim
  ·exact qgt hk h
  ·exact h.elim
 ·exact h.elim
theorem Xr {S:St} {o:Oper}:detG P S o k→detG P S o k':=by
 intro h
 unfold detG at h ⊢
 split at h
 ·exact Xv hk h
 ·exact qmb hk h
end
section
variable {P:Program} {S:St} {d:Option Nat} {K K':St→Prop} (hK:∀ S,K S→K' S)
include hK
theorem qdi {t:TypeId}:ky P S d t K→ky P S d t K':=by
 unfold ky;intro h;split at h
 ·exact⟨h.1,fun b hb=>hK _ (h.2 b hb)⟩
 ·exact h.elim
theorem qmu {t:TypeId} {v:V}:ue S d t v K→ue S d t v K':=by
 unfold ue;intro h;split at h
 ·exact⟨h.1,fun b hb=>hK _ (h.2 b hb)⟩
 ·exact h.elim
theorem U0 {t:TypeId} {p v:V}:xO P S d t p v K→xO P S d t p v K':=by
 rw [wF,wF]
 unfold QF
 intro h
 split at h
 ·exact qo (fun _=>qo fun _=>qo fun _=>qD (hK _)) h
 ·exact h.elim
theorem ve {t:TypeId} {n:Nat} {ps:List (Nat × V)}:qI P S d t n ps K→qI P S d t n ps K':=by
 rw [j1,j1]
 refine qo fun u=>?_
 cases u <;> first | exact id | exact qo fun _=>qo fun _=>qD (qo fun _=>qD fun h y=>hK _ (h y))
omit hK in
theorem K8:∀ {l:List Row} {y:Value} {L L':Row→List Row→Prop},(∀ r rs,L r rs→L' r rs)→j8 l y L→j8 l y L'
 | [],_,_,_,_,h=>h
 | r::_,_,_,_,hL,h=>h.imp (fun h=>⟨h.1,hL _ _ h.2⟩) (K8 fun r' rs'=>hL r' (r::rs'))
theorem Vt {k by_:Nat} {e:TypeId} {s:V} {fs:List (List V)}:jl S d k by_ e s fs K→jl S d k by_ e s fs K':=by
 unfold jl;intro h;split at h
 ·exact⟨h.1,fun y=>hK _ (h.2 y)⟩
 ·exact⟨h.1,K8 (fun r rs h=>⟨h.1,fun y=>hK _ (h.2 y)⟩) h.2⟩
 ·exact h.elim
theorem ZV {t:TypeId} {s x:V}:zh P S d t s x K→zh P S d t s x K':=by
 rw [QY,QY]
 refine qo fun u=>?_
 cases u <;> first | exact id | exact qo fun _=>qo fun _=>qo fun _=>qD (qa7 fun _=>Vt hK)
theorem Jh {f:V} {as:List V}:ja P S d f as K→ja P S d f as K':=by
 unfold ja;intro h;split at h
 ·split at h
  ·obtain⟨bs,lf,hp,h⟩:=h
   exact⟨bs,lf,hp,Ok.mono h fun _ _ _ hk hn=>hK _ (hk hn)⟩
  ·obtain⟨v,h,hk⟩:=h
   exact⟨v,h,hK _ hk⟩
 ·obtain⟨bs,lf,hp,h⟩:=h
  exact⟨bs,lf,hp,OkY.mono h fun _ _ _ hk hn=>hK _ (hk hn)⟩
 ·exact h.elim
omit hK in
theorem YZ {c:Prop} [Decidable c] {A A' B B':Prop} (hA:A→A') (hB:B→B'):JY c A B→JY c A' B':=by
 unfold JY;intro h
 by_cases hc:c
 ·rw [if_pos hc] at h ⊢;exact hA h
 ·rw [if_neg hc] at h ⊢;exact hB h
theorem qhb {k by_ m:Nat} {s:V} {fs:List V}:uO S d k by_ s m fs K→uO S d k by_ s m fs K':=by
 unfold uO;intro h;split at h
 ·exact YZ (hK _) (fun h=>⟨h.1,fun b c h1 h2=>hK _ (h.2 b c h1 h2)⟩) h
 ·split at h
  ·exact⟨h.1,h.2.1,YZ (hK _) (fun h=>⟨h.1,fun b c h1 h2=>hK _ (h.2 b c h1 h2)⟩) h.2.2⟩
  ·exact h.elim
 ·exact h.elim
theorem qha {t tx:TypeId} {s x:V}:v6 P S d t tx s x K→v6 P S d t tx s x K':=by
 unfold v6;intro h;split at h
 ·split at h
  ·exact⟨h.1,h.2.1,h.2.2.1,yH h.2.2.2 fun _ _=>qhb hK⟩
  ·exact h.elim
 ·exact h.elim
theorem qhc {k by_ m:Nat} {s:V} {fs:List V}:QK S d k by_ s m fs K→QK S d k by_ s m fs K':=by
 unfold QK;intro h;split at h
 ·exact⟨h.1,h.2.1,fun b c h1 h2=>hK _ (h.2.2 b c h1 h2)⟩
 ·split at h
  ·exact⟨h.1,h.2.1,h.2.2.1,fun b c h1 h2=>hK _ (h.2.2.2 b c h1 h2)⟩
  ·exact h.elim
 ·exact h.elim
theorem Jt {t tx:TypeId} {s x:V}:ua P S d t tx s x K→ua P S d t tx s x K':=by
 rw [Ju,Ju]
 refine qo fun u=>?_
 cases u <;> first | exact id | exact qo fun _=>qo fun _=>qo fun _=>qD fun h=>yH h fun _ _=>qhc hK
theorem qg8 {t tx:TypeId} {s x:V}:Jr P S d t tx s x K→Jr P S d t tx s x K':=by
 unfold Jr;intro h;split at h
 ·split at h
  ·obtain⟨h1,h2,h3,h4,h5,h6,h7,h8,h⟩:=h
   exact⟨h1,h2,h3,h4,h5,h6,h7,h8,fun b c q1 q2=>hK _ (h b c q1 q2)⟩
  ·exact h.elim
 ·exact h.elim
theorem qc1 {t:TypeId} {s:V}:vJ P S d t s K→vJ P S d t s K':=by
 unfold vJ;intro h;split at h
 ·split at h
  ·exact hK _ h
  ·refine⟨fun e=>hK _ (h.1 e),fun e=>?_⟩
   have h:=h.2 e
   split at h
   ·exact⟨h.1,h.2.1,h.2.2.1,hK _ h.2.2.2⟩
   ·exact h.elim
  ·exact h.elim
 ·exact h.elim
theorem qgm {t tx:TypeId} {s x:V}:js P S d t tx s x K→js P S d t tx s x K':=by
 unfold js;intro h;split at h
 ·split at h
  ·refine yH h fun m fs h=>?_
   split at h
   ·exact hK _ h
   ·split at h
    ·exact⟨h.1,hK _ h.2⟩
    ·exact h.elim
   ·exact h.elim
  ·exact h.elim
 ·exact h.elim
theorem vV {t:TypeId} {l c:V}:zo P S d t l c K→zo P S d t l c K':=by
 unfold zo;intro h;split at h
 ·split at h
  ·obtain⟨h1,h2,h3,h4,h5,h6,h7,h⟩:=h
   exact⟨h1,h2,h3,h4,h5,h6,h7,fun b q=>hK _ (h b q)⟩
  ·exact h.elim
 ·exact h.elim
theorem qg9 {t tx:TypeId} {s:V} {b:ByteArray}:Kf P S d t tx s b K→Kf P S d t tx s b K':=by
 rw [Js,Js]
 refine qo fun u=>?_
 cases u <;> first | exact id | exact qo fun _=>qo fun _=>qo fun _=>qD (Vt hK)
theorem Jp {t tx:TypeId} {s x:V}:zi P S d t tx s x K→zi P S d t tx s x K':=by
 unfold zi;intro h;split at h
 ·exact qg8 hK h
 ·exact h.imp (qha hK) (Jt hK)
 ·exact h.imp (fun h=>⟨h.1,ZV hK h.2⟩) (Jt hK)
 ·exact qg9 hK h
 ·exact⟨h.1,ZV hK h.2⟩
theorem J3 {t:TypeId} {r:Option V}:xX P S d t r K→xX P S d t r K':=by
 unfold xX;intro h;split at h
 ·exact⟨h.1,fun b hb=>hK _ (h.2 b hb)⟩
 ·exact h.elim
omit hK in
theorem X1 {o:Option V} {A A':V→Prop} {B B':Prop} {p q p' q'} (hA:∀ v,A v→A' v) (hB:B→B'):yx o A B p q→yx o A' B' p' q':=by
 unfold yx;cases o <;> first | exact hB | exact hA _
omit hK in
theorem qfp {t:TypeId} {x k:V} {ok:Bool} {K K':V→Prop} (hK:∀ v,K v→K' v):QG P S t x k ok K→QG P S t x k ok K':=by
 unfold QG;intro h;split at h
 ·split at h
  ·refine⟨h.1,?_⟩
   replace h:=h.2
   unfold vW at h ⊢
   split at h
   ·exact hK _ h
   ·split at h
    ·exact⟨h.1,X1 (fun _=>hK _) (hK _) h.2⟩
    ·exact h.elim
   ·exact h.elim
  ·exact h.elim
 ·exact h.elim
theorem Yn {t:TypeId} {x k v:V}:KO P S d t x k v K→KO P S d t x k v K':=by
 unfold KO;intro h;split at h
 ·split at h
  ·refine⟨h.1,?_⟩
   replace h:=h.2
   unfold UH at h ⊢
   split at h
   ·split at h
    ·exact⟨h.1,X1 (fun _=>hK _) (hK _) h.2⟩
    ·exact h.elim
   ·exact h.elim
  ·exact h.elim
 ·exact h.elim
omit hK in
theorem qfc {o:Option Ent} {A A':Ent→Prop} {B B':Prop} {p q p' q'} (hA:∀ v,A v→A' v) (hB:B→B'):WA o A B p q→WA o A' B' p' q':=by
 unfold WA;cases o <;> first | exact hB | exact hA _
theorem qfm {t:TypeId} {x k:V}:ZG P S d t x k K→ZG P S d t x k K':=by
 unfold ZG;intro h;split at h
 ·split at h
  ·refine⟨h.1,?_⟩
   replace h:=h.2
   unfold X4 at h ⊢
   split at h
   ·split at h
    ·exact⟨h.1,qfc (fun _=>hK _) (hK _) h.2⟩
    ·exact h.elim
   ·exact h.elim
  ·exact h.elim
 ·exact h.elim
theorem qb0 {t:TypeId} {x:V}:uI P S d t x K→uI P S d t x K':=by
 unfold uI;intro h;refine⟨h.1,?_⟩
 replace h:=h.2
 split at h
 ·exact hK _ h
 ·exact h.elim
theorem qla {r:V} {n:String} {as:List V}:J6 P S d r n as K→J6 P S d r n as K':=by
 unfold J6;intro h;split at h
 ·obtain⟨g,u,h1,h2,h3⟩:=h
  exact⟨g,u,h1,h2,Jh hK h3⟩
 ·exact h.elim
theorem ql2 {x s v:V}:W5 S d x s v K→W5 S d x s v K':=by
 unfold W5;intro h;split at h
 ·split at h
  ·exact⟨h.1,hK _ h.2⟩
  ·exact h.elim
 ·exact h.elim
theorem qav {t:TypeId} {x:V}:vr P S d t x K→vr P S d t x K':=by
 unfold vr;intro h;split at h
 ·split at h
  ·exact fun ib hb=>hK _ (h ib hb)
  ·exact h.elim
 ·exact h.elim
theorem qfh {x:V}:uE S d x K→uE S d x K':=by
 unfold uE;intro h;split at h
 ·split at h
  ·split at h
   ·exact⟨h.1,fun he=>hK _ (h.2.1 he),fun e he hf=>hK _ (h.2.2 e he hf)⟩
   ·exact h.elim
  ·exact h.elim
 ·exact h.elim
omit hK in
theorem qcr {x:V} {K K':V→Prop} (hK:∀ v,K v→K' v):jY S x K→jY S x K':=by
 unfold jY;intro h;split at h
 ·split at h
  ·split at h
   ·split at h
    ·exact⟨h.1,hK _ h.2⟩
    ·exact h.elim
   ·exact h.elim
  ·exact h.elim
 ·exact h.elim
omit hK in
theorem qc7 {e:TypeId} {v:V} {K K':V→Prop} (hK:∀ v,K v→K' v):wr P S e v K→wr P S e v K':=by
 unfold wr;intro h;split at h
 ·exact⟨h.1,hK _ h.2⟩
 ·refine⟨h.1,?_⟩
  have:=h.2
  split at this
  ·obtain⟨h1,ns,h2,h3⟩:=this;exact⟨h1,ns,h2,hK _ h3⟩
  ·exact this.elim
 ·obtain⟨h1,h2,h3,ns,h4,h5⟩:=h;exact⟨h1,h2,h3,ns,h4,hK _ h5⟩
 ·exact h.elim
omit hK in
theorem qgo {s t:TypeId} {v:V} {K K':V→Prop} (hK:∀ v,K v→K' v):uL P S s t v K→uL P S s t v K':=by
 unfold uL;intro h;split at h
 ·exact qc7 hK h
 ·unfold UZ at h ⊢
  split at h
  ·exact⟨h.1,hK _ h.2⟩
  ·exact h.elim
 ·exact Je hK h
theorem qs3 {o:Oper}:aOp P S o K→aOp P S o K':=by
 unfold aOp;intro h;split at h
 ·exact qdi hK h
 ·exact qmu hK h
 ·exact vY (fun _=>hK _) h
 ·exact U0 hK h
 ·unfold ka at h ⊢
  split at h
  ·exact h.imp (ve hK) (vV hK)
  ·exact ve hK h
 ·exact vV hK h
 ·exact J3 hK h
 ·exact qfp (fun _=>hK _) h
 ·exact Yn hK h
 ·exact Yn hK h
 ·exact qfm hK h
 ·exact qb0 hK h
 ·exact ql2 hK h
 ·exact qav hK h
 ·exact qfh hK h
 ·exact qcr (fun _=>hK _) h
 ·exact qgo (fun _=>hK _) h
 ·split at h
  ·split at h
   ·exact Jp hK h
   ·exact h.elim
  ·split at h
   ·exact qgm hK h
   ·exact h.elim
  ·split at h
   ·exact qc1 hK h
   ·exact h.elim
  ·split at h
   ·exact qk3 (fun _=>hK _) h
   ·exact h.elim
  ·exact Jh hK h
  ·exact qla hK h
  ·exact Xr (fun _=>hK _) h
 ·exact Xr (fun _=>hK _) h
theorem Qj {ops:Array Oper}:∀ {l:List Oper} {S:St},Qv P ops K l S→Qv P ops K' l S
 | [],_,h=>hK _ h
 | o::r,S,h=>by
  simp only [Qv] at h ⊢
  split at h
  ·exact qs3 (fun S'=>Qj) h
  ·exact Qj h
  ·exact h.elim
theorem Xs {ops:Array Oper}:∀ {l:List Oper} {S:St},QV P ops K l S→QV P ops K' l S
 | [],_,h=>hK _ h
 | o::r,S,h=>by
  simp only [QV] at h ⊢
  split at h
  ·exact Xr (fun v=>Xs) h
  ·exact Xs h
  ·exact h.elim
end
theorem u9 {P:Program} {hc:Option Bool} {ops:Array Oper} {K K':St→Prop} (hK:∀ S,K S→K' S):∀ {l:List Oper} {S:St},yW P hc ops K l S→yW P hc ops K' l S
 | [],_,h=>hK _ h
 | _::_,_,h=>jG h fun _ h' _ _=>u9 hK h'
theorem xl {C:Ctx}:∀ {c:Code} {S:St} {Q Q':Exit→St→Prop},(∀ e S,Q e S→Q' e S)→j5 C c S Q→j5 C c S Q'
 | .skip,S,Q,Q',hq,h=>by simp only [j5] at h ⊢;exact hq _ _ h
 | .label _,S,Q,Q',hq,h=>by simp only [j5] at h ⊢;exact hq _ _ h
 | .exit i,S,Q,Q',hq,h=>by simp only [j5] at h ⊢;exact hq _ _ h
 | .ret,S,Q,Q',hq,h=>by simp only [j5] at h ⊢;exact hq _ _ h
 | .seq x y,S,Q,Q',hq,h=>by
  simp only [j5] at h ⊢
  refine xl (fun e S' h'=>?_) h
  cases e <;> first | exact xl hq h' | exact hq _ _ h'
 | .cond c x y,S,Q,Q',hq,h=>by
  simp only [j5] at h ⊢
  split at h
  ·rename_i b _
   cases b <;> simp only [if_true,if_false,Bool.false_eq_true] at h ⊢ <;> exact xl hq h
  ·exact h.elim
 | .block id c,S,Q,Q',hq,h=>by
  simp only [j5] at h ⊢
  refine xl (fun e S' h'=>?_) h
  cases e <;> simp only [Q2] at h' ⊢ <;> first | exact hq _ _ h' | (split at h' <;> rename_i e <;> simp only [e,if_true,if_false] <;> exact hq _ _ h')
 | .scope c,S,Q,Q',hq,h=>by
  simp only [j5] at h ⊢
  refine xl (fun e S' h'=>?_) h
  cases e <;> first | exact h'.elim | exact hq _ _ h'
 | .region _ ops false,S,Q,Q',hq,h=>by simp only [j5] at h ⊢;exact Qj (hq _) h
 | .region _ ops true,S,Q,Q',hq,h=>by
  simp only [j5] at h ⊢
  split at h
  ·exact Xs (fun S'=>Qj (hq _)) h
  ·exact u9 (hq _) h
  ·exact u9 (hq _) h
  ·exact u9 (hq _) h
  ·exact zC.mono h hq
 | .loop c,S,Q,Q',hq,h=>by simp only [j5] at h ⊢;exact zC.mono h hq
 | .rangeFunc _ _ _ _,S,Q,Q',hq,h=>by simp only [j5] at h ⊢;exact zC.mono h hq
 | .goto _,S,Q,Q',hq,h=>by simp only [j5] at h ⊢;exact zC.mono h hq
 | .refuse _,S,Q,Q',hq,h=>by simp only [j5] at h ⊢;exact zC.mono h hq
inductive yq:List V→List V→Prop
 | nil:yq [] []
 | cons {v v':V} {l l':List V} (h:Le v v') (r:yq l l'):yq (v::l) (v'::l')
theorem yq.reps:∀ {l l':List V},yq l l'→∀ {w I xs},V.reps w I l xs→V.reps w I l' xs
 | _,_,.nil,_,_,_,h=>h
 | _,_,.cons h r,w,I,[],h'=>by simp [V.reps] at h'
 | _,_,.cons h r,w,I,x::xs,h'=>by simp only [V.reps] at h' ⊢;exact⟨h w I x h'.1,r.reps h'.2⟩
theorem Ok.le {P:Program} {f:FuncId} {as as':List V} {bs:List (Nat × B)} {Q:V→List (Nat × B)→List Row→Prop} (hl:yq as as') (h:Ok P f as' bs Q):Ok P f as bs Q :=
 fun w I xs hr hb=>h w I xs (hl.reps hr) hb
theorem vN {P:Program} {g:FuncId} {as as':List V} {Q:V→List (Nat × B)→List Row→Prop} {p:zH Q} (hl:yq as as') {bx:List (Nat × B)} (v:V) (h:zc P g as' v) (hk:Q v bx []):OkF P g as bx Q p :=
 qg v (Ok.le hl h) hk
theorem uS {P:Program} {g:FuncId} {as as':List V} {k:V→Prop} {p:zH k} (hl:yq as as') (v:V) (h:zc P g as' v) (hk:k v):qtq P g as k p:=qF v (zc.v (Ok.le hl h)) hk
theorem kz {C:Ctx} {c:Code} {k:List It} {S:St} {Q:Exit→St→Prop} (M:St→Prop) (h:EX C (.code c::.stop M::k) S Q) (hM:∀ S',M S'→EX C k S' Q):EX C (.code c::k) S Q:=by
 refine xl (c:=c) (fun e S' h'=>?_) h
 cases e <;> first | exact hM _ h' | exact h'
end Go.VL
