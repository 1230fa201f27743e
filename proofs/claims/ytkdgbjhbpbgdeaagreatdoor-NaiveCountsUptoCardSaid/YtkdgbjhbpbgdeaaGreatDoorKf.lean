/- Merged out of my texts S5 S6 S7 ZW ZX ZY ZP ZQ ZR Z0 Y7 EB Z1 Z2 Z3 Z4 S8 R1 R2 R3 R4 R5 R6 R7 N2 N3 N1 N6 N4. -/
import Derived.Test.YtkdgbjhbpbgdeaaGreatDoorKA
import Derived.Test.YtkdgbjhbpbgdeaaGreatDoorKe
import Derived.Test.YtkdgbjhbpbgdeaaGreatDoorKVc
import Derived.Test.YtkdgbjhbpbgdeaaGreatDoorKc
import Derived.Test.YtkdgbjhbpbgdeaaGreatDoorKVa
import Derived.Test.YtkdgbjhbpbgdeaaGreatDoorKa
import Derived.Test.YtkdgbjhbpbgdeaaGreatDoorKd
import Derived.Test.YtkdgbjhbpbgdeaaGreatDoorKVd
import Derived.Test.YtkdgbjhbpbgdeaaGreatDoorRows
import Derived.ProofKit
import Derived.JoinedCond
import Derived.OpenShut
import Derived.Shelf.Vars
set_option linter.unusedSimpArgs false
set_option maxRecDepth 100000
set_option maxHeartbeats 4000000
set_option linter.defProp false
set_option linter.unusedVariables false
open Go.Proofs.Tryz
open Go.VL Go.Ar Go.Lo Go.Nv Go.Proofs.YtkdgbjhbpbgdeaaGreatDoor
namespace Go.Proofs.YtkdgbjhbpbgdeaaGreatDoor.Ses
theorem qSc (g t:Int) (d:¬ tick t∨g < 1∨1099511627776 < g):Ok prog 26 [nilS,vint g,vint t] [] fun v a rs=>v=.tup [.agg [vint 0,vint 0],qq false]/\a=[]/\rs=[]:=by
 refine oE func26 fun F z n=>?_;refine qb fun o u=>?_;refine qb fun p w=>?_;refine qb fun q x=>?_;refine qi _ (qir t) ?_;cases k:jb t
 ·refine qa ?_;exact r0 ⟨rfl,rfl,rfl⟩
 ·have e:g < 1∨1099511627776 < g:=d.resolve_left fun h=>h ((qcw t).1 k);by_cases j:g < 1
  ·refine qa ?_;exact r0 ⟨rfl,rfl,rfl⟩
  ·have y:=e.resolve_left j;refine qa ?_;exact r0 ⟨rfl,rfl,rfl⟩
theorem qSb (a:Nat) (cs:List V) (n ce:Nat) (g t:Int) (e:¬ tick t∨g < 1∨1099511627776 < g):Ok prog 26 [slI a n ce,vint g,vint t] [(a,.c cs)] fun v d rs=>v=.tup [.agg [vint 0,vint 0],qq false]/\d=[]/\rs=[]:=by
 refine oE func26 fun F C p=>?_;refine qb fun q x=>?_;refine qb fun u y=>?_;refine qb fun w z=>?_;refine qi _ (qir t) ?_;cases o:jb t
 ·refine qa ?_;exact r0 ⟨rfl,rfl,rfl⟩
 ·have j:g < 1∨1099511627776 < g:=e.resolve_left fun h=>h ((qcw t).1 o);by_cases k:g < 1
  ·refine qa ?_;exact r0 ⟨rfl,rfl,rfl⟩
  ·have A:=j.resolve_left k;refine qa ?_;exact r0 ⟨rfl,rfl,rfl⟩
theorem qov {l:List Int} {g:Int} {a:Nat} (hb:qn9 l g a):∀ i,a<=i->i < l.length->qSw l g a (i+1)->qHk l g i=a
 | 0,h,_,_=>by rw [qHk];omega
 | i+1,h,hi,hn=>by
  rw [qHk];by_cases e:a=i+1
  ·subst e;rcases hb with h | h | h
   ·omega
   ·omega
   ·rw [if_neg (by simpa using h)]
  ·rw [if_pos (by simpa using hn (i+1) (by omega) (by omega))];exact qov hb i (by omega) (by omega) fun j d k=>hn j d (by omega)
theorem qU8 {l:List Int} {g t:Int} (d:0 < l.length) (k:tick t) (n:1<=g/\g<=1099511627776) {a:Nat} (p:a < l.length) (hb:qn9 l g a) (o:qSw l g a l.length) :
  (if t - l.getD (l.length - 1) 0<=g then V.tup [.agg [vint (l.getD a 0),vint (l.getD (l.length - 1) 0)],qq true] else .tup [.agg [vint 0,vint 0],qq false])=qo7 (qK6 l g t):=by
 have e:=qov hb (l.length - 1) (by omega) (by omega) (by rwa [Nat.sub_add_cancel d]);have j:qK6 l g t=if t - l.getD (l.length - 1) 0<=g then some (l.getD a 0,l.getD (l.length - 1) 0) else none:=by
  unfold qK6;rw [if_neg,e];rintro(h | h | h | h)
  ·subst h;simp at d
  ·omega
  ·omega
  ·rw [(qcw t).2 k] at h;cases h
 rw [j];split <;> rfl
theorem qd4 {l:List Int} {g t:Int} (h:l=[]∨¬ tick t∨g < 1∨1099511627776 < g):qK6 l g t=none:=by
 unfold qK6;rw [if_pos];rcases h with h | h | h | h
 ·exact .inl h
 ·exact .inr (.inr (.inr (by cases e:jb t;rfl;exact absurd ((qcw t).1 e) h)))
 ·exact .inr (.inl h)
 ·exact .inr (.inr (.inl h))
theorem qU9 (l:List Int) (j:0 < l.length) (z:l.Pairwise (·<=·)) (g t:Int) (o:∀ x ∈ l,tick x/\x<=t) (d ce:Nat) (rest:List V) (w:l.length<=1000) (hc:l.length<=ce) :
  Ok prog 26 [slI d l.length ce,vint g,vint t] [(d,.c (l.map vint++rest))] fun v e rs=>v=qo7 (qK6 l g t)/\e=[]/\rs=[]:=by
 by_cases a:¬ tick t∨g < 1∨1099511627776 < g
 ·rw [qd4 (.inr a)];exact qSb d _ l.length ce g t a
 ·have n:tick t:=Classical.byContradiction fun h=>a (.inl h);have k:1<=g/\g<=1099511627776:=⟨Int.not_lt.1 fun h=>a (.inr (.inl h)),Int.not_lt.1 fun h=>a (.inr (.inr h))⟩;refine Ok.mono (qSv l j z (fun i h=>(o _ (zs h)).1) g t n (fun i h=>(o _ (zs h)).2) k d ce rest w hc) ?_;rintro v e rs ⟨C,A,u,y,rfl,p,q⟩;exact⟨qU8 j n k A u y,p,q⟩
theorem qSn (g t:Int):Ok prog 26 [nilS,vint g,vint t] [] fun v d rs=>v=qo7 (qK6 [] g t)/\d=[]/\rs=[]:=by
 rw [qd4 (.inl rfl)];by_cases a:¬ tick t∨g < 1∨1099511627776 < g
 ·exact qSc g t a
 ·exact qSj g t (Classical.byContradiction fun h=>a (.inl h)) ⟨Int.not_lt.1 fun h=>a (.inr (.inl h)),Int.not_lt.1 fun h=>a (.inr (.inr h))⟩
end Go.Proofs.YtkdgbjhbpbgdeaaGreatDoor.Ses
open Go.Sg Go.Nm
namespace Go.Proofs.YtkdgbjhbpbgdeaaGreatDoor
open Ses
theorem qV6 (s t:Int):xL 4 s t=none:=by
 unfold xL;split <;> rfl
theorem qTi (a:List Rw) (i:Nat) (d:i < a.length):((a.map (·.event)).take (i+1)).map vint=((a.map (·.event)).take i).map vint++[vint a[i].event]:=by
 rw [zt (by simpa using d),k8];simp
theorem qTu (au:CalcOk) {c:Cat} {rows:List Rw} {l:List E} (hf:qF3 c rows l) (h:Hd) (key:Str) (t:Int) (ab:h.wk=4)
  (ah:(Wo c rows h l key t).Pairwise fun a b=>a.event<=b.event) (ax:∀ r ∈ rows,tick r.event):zk prog 8 [zO c,qZ rows,.agg (jP h l),vstr key,vint t] (qZ (zW c rows h l key t)):=by
 have k1:zg prog 27=true:=by kernel_rfl
 have ac:=Vw h.wk h.ws t;rw [show xL h.wk h.ws t=none by rw [ab,qV6]] at ac;have hl:=hf.few;have ew:zW c rows h l key t=(match qK6 ((if wC c h l t=true then rows.filter (qhh c h l key t) else []).map (·.event)) h.ws t with | some (a,z)=>(if wC c h l t=true then rows.filter (qhh c h l key t) else []).filter fun r=>!(decide (r.event < a) || decide (z < r.event)) | none=>[]):=by
  unfold zW qni;rw [if_pos ab,YR];rfl
 rw [YR] at ah;have ag:(if wC c h l t=true then rows.filter (qhh c h l key t) else []).length<=1000:=by
  split
  ·exact km (qMu _ _) hl
  ·simp
 have al:∀ r ∈ (if wC c h l t=true then rows.filter (qhh c h l key t) else []),tick r.event/\r.event<=t:=by
  intro r W;split at W
  ·obtain⟨h1,h2⟩:=qA6.1 W;unfold qhh QY at h2;simp only [k7,decide_eq_true_eq] at h2;exact⟨ax r h1,h2.2.2.1⟩
  ·cases W
 refine Ok.boxL (fun e he=>by obtain⟨r,_,rfl⟩:=x9.1 he;rfl) ?_;rw [ew];have hq:id (h.wk=4):=ab;clear ab ew;refine oE func8 fun F w0 I0=>?_;refine qb fun J h5=>?_;refine qb fun p h7=>?_;refine qa ?_;refine zB [] _ (zp _) (qxo c rows h l key t hf.tabs) ?_;rintro v U Z ⟨⟨i6,i7,i8,i9,ai,ao,ap,rfl,rfl⟩,rfl⟩ hN;obtain⟨ha,hd⟩:=nd7 (L:=[p,J]) hN;refine qa ?_;refine zB (bsN i6 i7 i8 i9 ai ao ap c rows h l key t (wC c h l t)) [_,_] (zp _) (qhf c rows h l key t (by omega) (wC c h l t) (qhh c h l key t) i6 i7 i8 i9 ai ao ap ha (qha au hf h key t i7 i8 i9 ai hd)) ?_;rintro v U Z ⟨rfl,aj⟩ ar;generalize (if wC c h l t=true then rows.filter (qhh c h l key t) else [])=d at aj ag ah al ⊢;clear ha hd hN;rcases aj with⟨h0,rfl,rfl⟩ | ⟨b,K,ak,rfl,rfl⟩
 ·subst h0;refine qi _ ac ?_;simp only [qo7];refine qb fun o N=>?_;refine qa ?_;refine qf (fun P=>?_) (fun P=>absurd (show h.wk=4 from hq) (of_decide_eq_false P));clear P;refine qa ?_;refine qG Ty.mixed (by rfl) 0 (fun i S=>S.boxes=[(o,.c [vint 0,vint 0]),(p,.c (jP h l)),(J,.c (qT c))]/\S.rows=[]/\S.σ 4=vint t/\S.σ 7=ptr p/\S.σ 12=ptr o/\S.σ 14=nilS/\S.σ 36=vint 0/\S.σ 37=vint i) ⟨0,?_⟩ (fun i S I=>absurd I (qOe i)) (fun S ⟨k,D,A,C,q,u,w,M⟩=>?_)
  ·exact qA
  ·refine qW (qSn h.ws t) ?_;rintro v U Z ⟨rfl,rfl,rfl⟩;rw [qd4 (.inl rfl)];simp only [qo7];refine qa ?_;exact r0 ⟨rfl,.inl ⟨rfl,rfl⟩⟩
 ·have O:(b ≠ p/\p ≠ b)/\(b ≠ J/\J ≠ b):=by
   have:b ∉ [p,J]:=(js.1 ar).1;simp only [xb,y8,or_false,not_or] at this;exact⟨⟨this.1,qKh this.1⟩,⟨this.2,qKh this.2⟩⟩
  refine qi _ ac ?_;simp only [qo7];refine qb fun o N=>?_;refine qa ?_;refine qf (fun P=>?_) (fun P=>absurd (show h.wk=4 from hq) (of_decide_eq_false P));clear P;refine qa ?_;refine zI Ty.mixed (by rfl) d.length (fun i S=>((i=0/\S.boxes=[(o,.c [vint 0,vint 0]),(b,.c ((d.map zJ).flatten++zC ((K - d.length) * 8))),(p,.c (jP h l)),(J,.c (qT c))]/\S.σ 14=nilS)∨∃ n ce,0 < i/\i<=ce/\((n ≠ o/\o ≠ n)/\(n ≠ b/\b ≠ n)/\(n ≠ p/\p ≠ n)/\(n ≠ J/\J ≠ n))/\S.boxes=(n,.c (((d.map (·.event)).take i).map vint++zC (ce - i)))::[(o,.c [vint 0,vint 0]),(b,.c ((d.map zJ).flatten++zC ((K - d.length) * 8))),(p,.c (jP h l)),(J,.c (qT c))]/\S.σ 14=slI n i ce)/\S.rows=[]/\S.σ 4=vint t/\S.σ 7=ptr p/\S.σ 12=ptr o/\S.σ 11=.lit (.slice (some ⟨b,0,none⟩) d.length K)/\S.σ 35=.lit (.slice (some ⟨b,0,none⟩) d.length K)/\S.σ 36=vint d.length/\S.σ 37=vint i)
   ⟨_,_,_,_,zc _,zc _,zp _,zp _,?_⟩ (fun i S I ⟨ae,D,A,C,q,G,H,w,M⟩=>?_) (fun S ⟨ae,D,A,C,q,G,H,w,M⟩=>?_)
  ·refine qB ?_;trivial
  ·obtain⟨X,Y,hX,e⟩:=U0 d i I (zC ((K - d.length) * 8));have an:=qj I;rcases ae with⟨rfl,k,u⟩ | ⟨n,ce,am,af,⟨n12,T,n7,R⟩,k,u⟩
   ·rw [e] at k;have aw:(0:Int) < (d.length:Int):=by omega
    simp only [↓rA,rU,k,D,A,C,q,G,u,H,w,M,O,N,zq,I,aw,Int.natCast_zero,qof hX,simprocAttr];refine qX fun aq Q=>?_;refine qa ?_;refine fun y=>jS.r ?_;refine qa ?_;refine fun b' c' aa ad=>?_;have j:=zS aa;simp only [Nb] at j;simp only [↓rA,rU,k,D,A,C,q,G,u,H,w,M,O,N,Q,j,simprocAttr];have ay:IntKind.i64.wrap 1=1:=by decide
    refine⟨[_,_,_,_,_],[],[_,_,_,_,_],[],List.Sublist.cons_cons _ (List.Sublist.cons _ (zc _)),zn _,zp _,zp _,?_⟩;simp only [↓rA,rU,D,A,C,q,G,H,w,ay,simprocAttr];have e1:=qTi d 0 I;simp only [qJ0,List.take_zero,Jx,List.nil_append] at e1;refine⟨b',c',ad,⟨⟨j.2.1.2,j.2.1.1⟩,⟨j.2.2.1.2,j.2.2.1.1⟩,⟨j.2.2.2.1.2,j.2.2.2.1.1⟩,j.2.2.2.2.1.2,j.2.2.2.2.1.1⟩,?_,rfl⟩;rw [e,e1];simp only [List.flatten_cons,List.flatten_nil,wl,qPh];rfl
   ·rw [e] at k;simp only [↓rA,rU,k,D,A,C,q,G,u,H,w,M,O,N,n12,T,n7,R,zq,I,qof hX,simprocAttr];refine qX fun aq Q=>?_;simp only [↓rA,rU,k,D,A,C,q,G,u,H,w,M,O,N,n12,T,n7,R,Q,zq,I,qof hX,simprocAttr];refine fun y=>jS.r ?_;simp only [↓rA,rU,k,D,A,C,q,G,u,H,w,M,O,N,n12,T,n7,R,Q,zq,I,qof hX,simprocAttr];refine⟨⟨by simp [xC];omega,af,by omega⟩,fun b' c' aa ad=>?_⟩;simp only [wo,J0,decide_true,qL3,kA,if_false,List.filter_nil,n12,T,n7,R,Q,decide_false,qMw,if_true] at aa ⊢;have j:=zS aa;simp only [Nb] at j;simp only [↓rA,rU,k,D,A,C,q,G,u,H,w,M,O,N,n12,T,n7,R,Q,j,an,simprocAttr];refine⟨[_,_,_,_,_],[],[_,_,_,_,_],[],List.Sublist.cons_cons _ (List.Sublist.cons _ (zc _)),zn _,zp _,zp _,?_⟩;simp only [↓rA,rU,D,A,C,q,G,H,w,an,simprocAttr];refine⟨b',c',qP7 _,ad,⟨⟨j.2.1.2,j.2.1.1⟩,⟨j.2.2.1.2,j.2.2.1.1⟩,⟨j.2.2.2.1.2,j.2.2.2.1.1⟩,j.2.2.2.2.1.2,j.2.2.2.2.1.1⟩,?_,rfl⟩;rw [e,qTi d i I,qBf (by simp;omega)];simp only [List.flatten_cons,List.flatten_nil,wl,qPh];rfl
  ·rcases ae with⟨h0,k,u⟩ | ⟨n,ce,am,af,⟨n12,T,n7,R⟩,k,u⟩
   ·obtain rfl:=qMy.1 h0;simp only [↓rA,rU,k,D,A,C,q,G,u,H,w,M,O,N,h5,h7,List.length_nil,Int.natCast_zero,simprocAttr];refine qF (qSn h.ws t) ?_;rintro v U Z ⟨rfl,rfl,rfl⟩;rw [qd4 (.inl rfl)];simp only [qo7];refine qa ?_;exact r0 ⟨rfl,.inl ⟨by rfl,rfl,rfl⟩⟩
   ·have hS:=qU9 (t:=t) (d.map (·.event)) (by simpa using am) (List.pairwise_map.2 ah) h.ws (fun x hx=>by obtain⟨r,W,rfl⟩:=x9.1 hx;exact al r W) n ce (zC (ce - d.length)) (by simpa using ag) (by simpa using af);rw [zz] at hS;rw [xa (by simp)] at k;refine qn ?_;refine qr [_] [_,_,_,_] (zp _) hS ?_;rintro v U Z ⟨rfl,rfl,rfl⟩;cases qK6 (d.map (·.event)) h.ws t with
    | none =>
     simp only [qo7];refine qa ?_;exact r0 ⟨rfl,.inl ⟨rfl,rfl⟩⟩
    | some az =>
     obtain⟨a,z⟩:=az;simp only [qo7];refine qa ?_;refine qr [(b,.c ((d.map zJ).flatten++zC ((K - d.length) * 8))),(o,.c [vint a,vint z])] [_,_] (List.Perm.swap _ _ _) (qR7 d (fun r=>decide (r.event < a) || decide (z < r.event)) _ #[.pointer (some ⟨o,0,none⟩)] b K [(o,.c [vint a,vint z])] k1 (fun r _=>qBb r a z o) _ ag ak) ?_;rintro v U Z ⟨rfl,r',rfl,rfl⟩;refine qa ?_;have av:(d.filter fun r=>!(decide (r.event < a) || decide (z < r.event))).length<=K:=km (qMu _ _) ak;exact⟨_,[_],[],Le.refl _,List.Sublist.cons_cons _ (zn _),zn _,rfl,.inr ⟨b,K,r',av,rfl,rfl⟩⟩
def Srt (rows:List Rw):Prop:=(rows.Pairwise fun a b=>a.table=b.table->a.key=b.key->a.event<=b.event)/\∀ r ∈ rows,tick r.event
theorem Srt.filter {rows:List Rw} (h:Srt rows) (p:Rw->Bool):Srt (rows.filter p):=⟨h.1.filter p,fun r a=>h.2 r (qA6.1 a).1⟩
theorem qud {rows:List Rw} (j:Srt rows) (c:Cat) (h:Hd) (l:List E) (key:Str) (t:Int):(Wo c rows h l key t).Pairwise fun a b=>a.event<=b.event:=by
 rw [YR];split
 ·refine List.Pairwise.imp_of_mem (fun {a b} ha hb hab=>?_) (j.1.filter _);have d:=(qA6.1 ha).2;have e:=(qA6.1 hb).2;unfold qhh QY at d e;simp only [k7,decide_eq_true_eq] at d e;exact hab (d.1.trans e.1.symm) (d.2.1.trans e.2.1.symm)
 ·exact List.Pairwise.nil
theorem qSa (d:CalcOk) {c:Cat} {rows:List Rw} {l:List E} (e:qF3 c rows l) (h:Hd) (key:Str) (t:Int) (k:¬ h.wk=4∨Srt rows):zk prog 8 [zO c,qZ rows,.agg (jP h l),vstr key,vint t] (qZ (zW c rows h l key t)):=by
 by_cases a:h.wk=4
 ·have j:=k.resolve_left fun h=>h a;exact qTu d e h key t a (qud j c h l key t) j.2
 ·exact qil d e h key t a
theorem qS5 {c:Cat} {rows:List Rw} {h:Hd} {l:List E} {key:Str} {t:Int} (j:Srt rows) {r:Rw} (a:r ∈ zW c rows h l key t):r ∈ rows/\0<=r.event/\r.event<=t/\l.length=2:=by
 unfold zW at a;split at a
 ·have a:=(qA6.1 a).1;rw [YR] at a;split at a
  ·rename_i e;unfold wC at e;simp only [k7,decide_eq_true_eq] at e;have d:=(qA6.1 a).2;unfold qhh QY at d;simp only [k7,decide_eq_true_eq] at d;exact⟨(qA6.1 a).1,(j.2 r (qA6.1 a).1).1,d.2.2.1,e.2.2.1⟩
  ·cases a
 ·cases a
end Go.Proofs.YtkdgbjhbpbgdeaaGreatDoor
namespace Go.Nv
theorem qFp (h:Hd) {l:List Val} (evs:List Int) (t:Int) (a:∀ v ∈ l,x5 v.n) (C:l.length<=1000):x5 (qh1 h l evs t).n:=by
 have d:∀ v ∈ yJ l,x5 v.n:=fun v A=>a v ((vi l).mem_iff.1 A);have D:=qql l;unfold qh1 XD;by_cases j:h.op=qdp
 ·rw [if_pos j];show x5 (l.length:Int);unfold x5;omega
 rw [if_neg j];by_cases o:h.op=qHp
 ·rw [if_pos o];show x5 ((yw l).length:Int);unfold x5;omega
 rw [if_neg o];by_cases e:l=[]
 ·rw [if_pos e];exact yZ
 rw [if_neg e];by_cases p:h.op=qAc
 ·rw [if_pos p];exact Go.Proofs.YtkdgbjhbpbgdeaaGreatDoor.getD_in a _
 rw [if_neg p];by_cases q:h.op=jD
 ·rw [if_pos q];exact Go.Proofs.YtkdgbjhbpbgdeaaGreatDoor.getD_in a _
 rw [if_neg q];by_cases u:h.op=qL8
 ·rw [if_pos u];exact Go.Proofs.YtkdgbjhbpbgdeaaGreatDoor.getD_in d _
 rw [if_neg u];by_cases w:h.op=qL9
 ·rw [if_pos w];exact Go.Proofs.YtkdgbjhbpbgdeaaGreatDoor.getD_in d _
 rw [if_neg w];split
 ·exact yZ
 by_cases x:h.op=JE
 ·rw [if_pos x];exact yl _ fun n h=>qb9 h
 rw [if_neg x];by_cases y:h.op=QZ
 ·rw [if_pos y];exact yl _ fun n h=>qb9 h
 rw [if_neg y];by_cases z:h.op=XN
 ·rw [if_pos z];exact yl _ fun n h=>qb9 h
 rw [if_neg z];by_cases k:h.op=QG
 ·rw [if_pos k];exact qw0 _
 rw [if_neg k];exact yZ
variable {t:Int}
theorem qmd {k s a z:Int} (h:xL k s t=some (a,z)):0<=a/\z=t/\0<=t/\t<=1099511627776:=by
 unfold xL at h;split at h
 case isFalse=>cases h
 rename_i e;rw [k7] at e;obtain⟨j,d⟩:=e;unfold jb at d;rw [k7,decide_eq_true_eq,decide_eq_true_eq] at d;split at h
 ·simp_all
 split at h
 ·injection h with h;injection h with n o;omega
 split at h
 ·rename_i q x u;injection h with h;injection h with n o
  unfold uJ at j;rw [if_neg q,if_pos (.inr (.inl u)),k7,decide_eq_true_eq,decide_eq_true_eq] at j;have p:t.tmod s<=t:=by
   rw [qPr d.1];have p:=Int.emod_add_mul_ediv t s;have w:=Int.mul_nonneg (a:=s) (b:=t / s) (by omega) (qO5 d.1 (by omega));omega
  omega
 ·cases h
variable {c:Cat}
theorem JX {rows:List Rw} {h:Hd} {l:List E} {key:Str} (j:¬ h.wk=4∨Srt rows) {r:Rw} (d:r ∈ zW c rows h l key t):r ∈ rows/\0<=r.event/\r.event<=t/\l.length=2:=by
 by_cases k:h.wk=4
 ·exact qS5 (j.resolve_left fun h=>h k) d
 replace j:=k;unfold zW qni at d;rw [if_neg j] at d;cases n:xL h.wk h.ws t with
 | none=>simp_all
 | some p =>
  obtain⟨a,z⟩:=p;rw [n] at d;simp only [qA6,qMv,Bool.or_eq_false_iff,decide_eq_false_iff_not] at d;have u:=qmd n;obtain⟨d,o,q⟩:=d;rw [YR] at d;split at d
  ·rename_i e;unfold wC at e;simp only [k7,decide_eq_true_eq] at e;exact⟨(qA6.1 d).1,by omega,by omega,e.2.2.1⟩
  simp_all
theorem JY {rows:List Rw} {h:Hd} {l:List E} {key:Str} :(zW c rows h l key t).length<=rows.length:=by
 unfold zW;split
 ·refine km (qMu _ _) ?_;rw [YR];split
  ·exact qMu _ _
  ·simp
 ·simp
structure qA2 (c:Cat) (rows:List Rw) (h:Hd) (l:List E):Prop where
 win:¬ h.wk=4∨Srt rows
 fit:qF3 c rows l
 par:x5 h.param
inductive Jj (c:Cat) (rows:List Rw):E->Prop
 | mk (h:Hd) (l:List E) (ha:h.kind=5->qA2 c rows h l) (hl:¬ h.kind=5->∀ x ∈ l,Jj c rows x):Jj c rows (.mk h l)
theorem qFn {rows:List Rw} {h:Hd} {l:List E} (d:qA2 c rows h l) (t:Int) (key:Str):x5 (VE c rows t h l key).n:=by
 unfold VE;split
 ·rename_i n _;refine qFp h _ t (fun v k=>?_) (by rw [zz];exact km JY d.fit.few);obtain⟨r,j,rfl⟩:=x9.1 k;have e:=JX d.win j
  match l,e.2.2.2,d with
  | [a,b],_,d=>exact qb4 n r (d.fit.row r e.1) a (d.fit.args a (by simp))
 ·exact yZ
theorem qlp {rows:List Rw} {fv:Str->Str->Val}:∀ x:E,(∀ m ∈ Ub x,∀ k,x5 (fv m k).n)->uh x->Jj c rows x->∀ key,x5 (jt c rows t fv x key).n:=by
 intro x
 induction x using E.ind with
 | h hd l A =>
  intro h o p key;rw [qb7] at h;obtain⟨_,_,q,u⟩:=p;rw [qc1];by_cases e:hd.kind=1
  ·rw [qod e];exact o.inw.1
  by_cases j:hd.kind=3
  ·rw [if_neg e,if_pos j] at h;rw [qc2 j];simp_all
  by_cases a:hd.kind=5
  ·rw [qc3 a];exact qFn (q a) t key
  rw [if_neg e,if_neg j,if_neg a] at h;by_cases n:hd.kind=4
  ·rw [if_pos n] at h;rw [KH n];split
   ·exact yZ
   split
   ·exact yZ
   simp_all
  ·rw [if_neg n] at h;rw [qoc e j n a];refine qex hd fun v z=>?_;obtain⟨y,d,rfl⟩:=x9.1 z;exact A y d (fun m w=>h m (uS.2 ⟨y,d,w⟩)) (o.args y d) (u a y d) key
structure ug (g:List (Nat × FID × Unit)) (cl:Nat) (e:FID->Prop):Prop where
 lt:∀ p ∈ g,p.1 < cl
 apart:zT g
 mem:∀ i,(zy g i).isSome=true↔e i
theorem ug.nil:ug [] 0 fun _=>False:=⟨by simp,List.Pairwise.nil,fun i=>by simp [zy]⟩
theorem ug.congr {g cl e e'} (h:ug g cl e) (a:∀ i,e i↔e' i):ug g cl e':=⟨h.lt,h.apart,fun i=>(h.mem i).trans (a i)⟩
theorem ug.old {g cl e} (h:ug g cl e) {i:FID} {q} (k:zy g i=some q):ug g cl fun j=>e j∨j=i :=
 h.congr fun j=>⟨.inl,fun d=>d.elim id fun a=>by rw [a];exact(h.mem i).1 (by simp_all)⟩
theorem ug.new {g cl e} (h:ug g cl e) {i:FID} (k:zy g i=none):ug (g++[(cl,i,())]) (cl+1) fun j=>e j∨j=i where
 lt p a:=by
  rcases z6.1 a with a | a
  ·exact qOf (h.lt p a)
  simp_all
 apart:=by
  refine qMl.2 ⟨h.apart,by simp,fun p a q d=>?_⟩;rw [kl] at d;subst d;exact⟨h.lt p a,fun e=>vn k p a e.symm⟩
 mem j:=by
  rw [ut,<-h.mem j];cases e:zy g j with
  | some q=>simp
  | none=>simp
abbrev cKn (p:Val × Nat):V:=.agg [vint p.1.kind,vint p.1.n,vstr p.1.s,Lo.mp p.2]
abbrev vBo (b:Bool):V:=qq b
abbrev mI (g:List (Nat × FID × Unit)) (cl:Nat):B:=.m ([.s,.i .i64],true) (qP u4 vTt g) cl
abbrev mB (g:List (Nat × Str × Bool)) (cl:Nat):B:=.m ([.s],false) (qP Jt vBo g) cl
abbrev mD (g:List (Nat × (Str × Str) × (Val × Nat))) (cl:Nat):B:=.m ([.s,.s],true) (qP kSS cKn g) cl
def QU (g:List (Nat × Str × Bool)) (m:Str):Bool:=((zy g m).map (·.2.2)).getD false
theorem qaf {g:List (Nat × Str × Bool)} {m:Str} {q} (h:zy g m=some q) (b:Bool) (k:Str):QU (ko m b g) k=if k=m then b else QU g k:=by
 unfold QU;rw [Wu];by_cases e:k=m
 ·subst e;have:=(xh h).2;simp_all
 ·rw [if_neg e];cases d:zy g k with
  | none=>rfl
  | some p =>
   have:¬ p.2.1=m:=fun a=>e ((xh d).2.trans a);simp_all
theorem qq7 {g:List (Nat × Str × Bool)} {m:Str} (a:zy g m=none) (cl:Nat) (b:Bool) (k:Str):QU (g++[(cl,m,b)]) k=if k=m then b else QU g k:=by
 unfold QU;rw [ut];by_cases e:k=m
 ·simp_all
 ·cases zy g k <;> simp [e]
structure UB (fv:Str->Str->Val) (fi:Str->Str->FID->Prop) (G:List (Nat × (Str × Str) × (Val × Nat))) (L:List Nat) (f:Nat->B):Prop where
 nodup:L.Nodup
 pl:∀ p ∈ G,p.2.2.1=fv p.2.1.1 p.2.1.2/\p.2.2.2 ∈ L/\∃ g cl,f p.2.2.2=mI g cl/\ug g cl (fi p.2.1.1 p.2.1.2)
theorem UB.nil (fv fi) (f:Nat->B):UB fv fi [] [] f:=⟨qOb,by simp⟩
theorem UB.old {fv fi G L f} (h:UB fv fi G L f) {b:Nat} (hb:b ∉ L) (z:B):UB fv fi G (b::L) (Zb f b z) where
 nodup:=js.2 ⟨hb,h.nodup⟩
 pl p hp:=by
  obtain⟨a,d,j⟩:=h.pl p hp;refine⟨a,.tail _ d,?_⟩;rw [JG _ _ fun e:p.2.2.2=b=>hb (by simp_all)];omega
theorem UB.put {fv fi G L f} (h:UB fv fi G L f) {b:Nat} (hb:b ∉ L) {g cl} {n k:Str} (q:ug g cl (fi n k)) {d:List (Nat × (Str × Str) × (Val × Nat))}
  (o:∀ p ∈ d,p ∈ G∨(p.2.1=(n,k)/\p.2.2=(fv n k,b))):UB fv fi d (b::L) (Zb f b (mI g cl)) where
 nodup:=js.2 ⟨hb,h.nodup⟩
 pl p a:=by
  rcases o p a with a | ⟨e,j⟩
  ·exact(h.old hb (mI g cl)).pl p a
  ·rw [e,j];exact⟨rfl,x6,g,cl,vh _ _ _,q⟩
theorem qCm {α d:Type} [DecidableEq α] {a:α} {v:d} {g:List (Nat × α × d)} {p:Nat × α × d} (h:p ∈ ko a v g):p ∈ g∨(p.2.1=a/\p.2.2=v):=by
 induction g with
 | nil=>cases h
 | cons q g j =>
  unfold ko at h;split at h
  ·rename_i e;rcases xb.1 h with rfl | h
   ·simp_all
   simp_all
  ·rcases xb.1 h with rfl | h
   ·simp
   ·exact(j h).imp (.tail _) id
structure qJ9 (c:Cat) (rows:List Rw) (t:Int) (N:Str->Prop) (rk:Str->Nat) (fv:Str->Str->Val) (fi:Str->Str->FID->Prop):Prop where
 ref:∀ name,N name->∀ f,xl c.features name=some f->(∀ m ∈ Ub f.body,N m/\rk m < rk name)/\Jj c rows f.body/\uh f.body
 val:∀ name,N name->∀ key,fv name key=match xl c.features name with | some f=>jt c rows t fv f.body key | none=>val0
 ids:∀ name,N name->∀ key i,fi name key i↔match xl c.features name with | some f=>W8 c rows t fv fi f.body key i | none=>False
 inw:∀ name,N name->∀ key,x5 (fv name key).n
def WB (c:Cat) (rows:List Rw) (t:Int) (fv:Str->Str->Val) (fi:Str->Str->FID->Prop) (k d a j:Nat) (u:Str->Bool) (e:FID->Prop) (o:Bx):Prop :=
 ∃ G q h p g n L f,UB fv fi G L f/\(∀ m,QU h m=u m)/\ug g n e/\(k ∉ L/\d ∉ L/\a ∉ L/\j ∉ L) /\
  o=(j,mI g n)::(k,.c (qT c++[qZ rows,vint t,Lo.mp d,Lo.mp a]))::(d,mD G q)::(a,mB h p)::dl L f
theorem WB.congr {c rows t fv fi bw bd bb bi β e e' bs} (h:WB c rows t fv fi bw bd bb bi β e bs) (w:∀ i,e i↔e' i):WB c rows t fv fi bw bd bb bi β e' bs:=by
 obtain⟨G,j,a,d,g,k,L,f,n,o,p,q,u⟩:=h;exact⟨G,j,a,d,g,k,L,f,n,o,p.congr w,q,u⟩
abbrev Ap4 (h d a e:Nat):Prop:=(e ≠ h/\h ≠ e)/\(e ≠ d/\d ≠ e)/\(e ≠ a/\a ≠ e)/\(h ≠ d/\d ≠ h)/\(h ≠ a/\a ≠ h)/\(d ≠ a/\a ≠ d)
end Go.Nv
namespace Go.VL
theorem qys (f:Nat->B):∀ L:List Nat,(dl L f).map (·.1)=L
 | []=>rfl
 | x::L=>by
  have:=qys f L;simp_all
theorem qLh {X:Bx} {L:List Nat} {f:Nat->B} (h:((X++dl L f).map (·.1)).Nodup):∀ b ∈ X.map (·.1),b ∉ L:=by
 rw [k8,qys,w4] at h;exact fun b d a=>h.2.2 b d b a rfl
theorem qHs {b:Nat}:∀ {l:Bx},Nb b l->∀ p ∈ l,p.1 ≠ b/\b ≠ p.1
 | (x,z)::l,h,p,a=>by
  simp only [Nb] at h;rcases xb.1 a with rfl | a
  ·omega
  ·exact qHs h.2 p a
end Go.VL
namespace Go.Proofs.YtkdgbjhbpbgdeaaGreatDoor
abbrev qAr (c:Cat) (rows:List Rw) (t:Int) (N:Str->Prop) (o:Str->Nat) (fv:Str->Str->Val) (fi:Str->Str->FID->Prop) (R:Nat):Prop :=
 ∀ x:E,uh x->Jj c rows x->(∀ m ∈ Ub x,N m/\o m < R)->∀ (key:Str) (h k j a:Nat) (n:Str->Bool) (e:FID->Prop) (d:Bx),Ap4 h k j a->(∀ m,N m->o m < R->n m=false)->WB c rows t fv fi h k j a n e d ->
  Ok prog 64 [ptr h,vE x,vstr key,mp a] d fun v d p=>v=.agg (qS (jt c rows t fv x key))/\WB c rows t fv fi h k j a n (fun i=>e i∨W8 c rows t fv fi x key i) d/\p=[]
abbrev qmz (c:Cat) (rows:List Rw) (t:Int) (N:Str->Prop) (o:Str->Nat) (fv:Str->Str->Val) (fi:Str->Str->FID->Prop) (R:Nat):Prop :=
 ∀ name,N name->o name < R->∀ (key:Str) (h k j a:Nat) (n:Str->Bool) (e:FID->Prop) (d:Bx),Ap4 h k j a->(∀ m,N m->o m < R->n m=false)->WB c rows t fv fi h k j a n e d ->
  Ok prog 93 [ptr h,vstr name,vstr key,mp a] d fun v d p=>v=.agg (qS (fv name key))/\WB c rows t fv fi h k j a n (fun i=>e i∨fi name key i) d/\p=[]
def qMg (c:Cat) (rows:List Rw) (t:Int) (fv:Str->Str->Val) (fi:Str->Str->FID->Prop) (z y x d e:Nat) (A:Str->Bool) (name key:Str) (g:List (Nat × FID × Unit)) (cl:Nat) (S:St):Prop :=
 S.rows=[]/\S.σ 3=mp d/\S.σ 8=ptr e/\∃ (a j:Nat) (k:List (Nat × FID × Unit)) (h:Nat) (n o:Bx),S.σ 10=ptr a/\ug k h (fi name key)/\zF S.boxes a=some [vint (fv name key).kind,vint (fv name key).n,vstr (fv name key).s,mp j]/\wq S.boxes j=some (([.s,.i .i64],true),qP u4 vTt k,h) /\
  ((j ≠ d/\d ≠ j)/\(j ≠ e/\e ≠ j)/\(j ≠ a/\a ≠ j)/\(a ≠ d/\d ≠ a)/\(a ≠ e/\e ≠ a))/\o.Sublist S.boxes /\
  o.Perm ((j,mI k h)::(a,.c [vint (fv name key).kind,vint (fv name key).n,vstr (fv name key).s,mp j])::(e,.c [vint 0,vint 0,vstr qH])::(d,mI g cl)::n) /\
  ∀ w q u,ug w q u->∃ p,((j,mI k h)::(d,mI w q)::n).Perm p/\WB c rows t fv fi z y x d A u p
theorem qn4:∀ g:List (Nat × FID × Unit),(g.filterMap fun p=>(fun q:FID × Unit=>some q.1) p.2)=g.map fun p=>p.2.1
 | []=>rfl
 | p::g=>by
  simp
def qNz (c:Cat) (rows:List Rw) (t:Int) (a d e p n o:Nat) (name key:Str) (g:List (Nat × FID × Unit)) (cl:Nat) (G:List (Nat × (Str × Str) × (Val × Nat))) (x:Nat) (q:List (Nat × Str × Bool)) (w:Nat) (u:List Nat) (f:Nat->B) (h:Bool) (z0 j k z3:V) (L:Nat->Bool) (S:St):Prop :=
 S.rows=[]/\S.σ 0=ptr a/\S.σ 1=vstr name/\S.σ 2=vstr key/\S.σ 3=mp p/\S.σ 8=ptr n/\S.σ 9=ptr o/\(L 0=true->S.σ 19=ptr a)/\(L 1=true->S.σ 20=ptr a)/\(L 2=true->S.σ 21=pt a 6)/\(L 3=true->S.σ 22=mp d)/\(L 4=true->S.σ 23=.agg [vstr name,vstr key])/\(L 5=true->S.σ 24=.tup [.agg [z0,j,k,z3],qq h])/\(L 6=true->S.σ 18=.tup [.agg [z0,j,k,z3],qq h])/\(L 7=true->S.σ 25=.agg [z0,j,k,z3])/\(L 8=true->S.σ 26=qq h)/\(L 11=true->S.σ 11=qq h) /\
 ∃ (X:Bx),S.boxes=[(o,.c [vstr name,vstr key]),(n,.c [vint 0,vint 0,vstr qH]),(p,mI g cl),(a,.c (qT c++[qZ rows,vint t,mp d,mp e])),(d,mD G x),(e,mB q w)]++(X++dl u f)/\((L 9=false/\L 10=false/\X=[])∨(L 9=true/\∃ b y z A C,X=[(b,.c [y,z,A,C])]/\S.σ 10=ptr b/\Nb b ([(o,.c [vstr name,vstr key]),(n,.c [vint 0,vint 0,vstr qH]),(p,mI g cl),(a,.c (qT c++[qZ rows,vint t,mp d,mp e])),(d,mD G x),(e,mB q w)]++dl u f)/\(L 10=true->[y,z,A,C]=[z0,j,k,z3])))
theorem qDy {c:Cat} {rows:List Rw} {t:Int} {N:Str->Prop} {rk:Str->Nat} {fv:Str->Str->Val} {fi:Str->Str->FID->Prop} (hS:qJ9 c rows t N rk fv fi) (a6:c.features.length<=Go.Proofs.YtkdgbjhbpbgdeaaGreatDoor.big) (R:Nat) (hE:∀ R',R' < R->qAr c rows t N rk fv fi R'):qmz c rows t N rk fv fi R:=by
 intro name hN hR key A d a o β e bs hd aR hW;have aS:=aR name hN hR;obtain⟨G,cd,H,cb,g,J,Z,f,hM,hB,hs,⟨nw,nd,nb,ni⟩,rfl⟩:=hW;refine Ok.permR (Q:=fun v bs rs=>(v=.agg (qS (fv name key))/\∃ ah,bs.Perm ah/\WB c rows t fv fi A d a o β (fun i=>e i∨fi name key i) ah)/\rs=[]) ?_ (fun v bs rs ⟨⟨hv,ah,hp,hw⟩,hr⟩=>⟨ah,hp,hv,hw,hr⟩);have al:=Y6 c name a6;have ac:=zb (cV:=cKn) YP (name,key) G;obtain⟨kn,z0,z1,z2,z3,hz,bA,bf⟩:∃ (kn:Bool) (z0 z1 z2 z3:V),((kn=true/\∃ p,zy G (name,key)=some p/\z0=vint p.2.2.1.kind/\z1=vint p.2.2.1.n/\z2=vstr p.2.2.1.s/\z3=mp p.2.2.2)∨(kn=false/\z0=vint 0/\z1=vint 0/\z2=vstr qH/\z3=.lit (.map none)))/\yx [z0,z1,z2,z3]=true /\
   ((kn=false/\z0=vint 0/\z1=vint 0/\z2=vstr qH/\z3=.lit (.map none)/\VL.findM (qP kSS cKn G) (kSS (name,key))=none)∨(kn=true/\VL.findM (qP kSS cKn G) (kSS (name,key))=some (.agg [z0,z1,z2,z3]))):=by
  cases hq:zy G (name,key) with
  | some p=>rw [hq] at ac;exact⟨true,_,_,_,_,.inl ⟨rfl,p,rfl,rfl,rfl,rfl,rfl⟩,rfl,.inr ⟨rfl,ac⟩⟩
  | none=>rw [hq] at ac;exact⟨false,_,_,_,_,.inr ⟨rfl,rfl,rfl,rfl,rfl⟩,rfl,.inl ⟨rfl,rfl,rfl,rfl,rfl,ac⟩⟩
 refine Ok.of_exM [(2,3)] Ty.mixed func93 rfl (by simp) (by kernel_rfl) fun F w0 I0=>?_;refine qa ?_;refine fun C h8=>?_;replace h8:=zS h8;simp only [Nb] at h8;refine qa ?_;refine fun b9 h9=>?_;replace h9:=zS h9;simp only [Nb] at h9;have D:=aI hd (aI h8 h9);have aW:=Jh h8.2.2.2.2;have aY:=Jh h9.2.2.2.2.2;refine qa ?_;refine yp Ty.mixed (by rfl) (by rfl) (qNz c rows t A d a o C b9 name key g J G cd H cb Z f kn z0 z1 z2 z3) ?_ ?_ ?_
 ·exact⟨by rfl,by rfl,by rfl,by rfl,by rfl,by rfl,by rfl,nofun,nofun,nofun,nofun,nofun,nofun,nofun,nofun,nofun,nofun,[],by rfl,.inl ⟨rfl,rfl,rfl⟩⟩
 ·intro L S i o1 n hL he ⟨w,M,O,P,T,U,W,f0,f1,f2,f3,f4,f5,f6,f7,f8,f11,X,k,Y⟩
  match i,n with
  | 0,n =>
   cases n;refine qa ?_;exact lP ⟨w,M,O,P,T,U,W,fun _=>rfl,f1,f2,f3,f4,f5,f6,f7,f8,f11,X,k,Y⟩
  | 1,n =>
   cases n;have d0:=f0 (dt he 0);refine qa ?_;exact lP ⟨w,M,O,P,T,U,W,f0,fun _=>rfl,f2,f3,f4,f5,f6,f7,f8,f11,X,k,Y⟩
  | 2,n =>
   cases n;have d1:=f1 (dt he 1);refine qa ?_;exact lP ⟨w,M,O,P,T,U,W,f0,f1,fun _=>rfl,f3,f4,f5,f6,f7,f8,f11,X,k,Y⟩
  | 3,n =>
   cases n;have d2:=f2 (dt he 2);refine qa ?_;exact lP ⟨w,M,O,P,T,U,W,f0,f1,f2,fun _=>rfl,f4,f5,f6,f7,f8,f11,X,k,Y⟩
  | 4,n =>
   cases n;refine qa ?_;exact lP ⟨w,M,O,P,T,U,W,f0,f1,f2,f3,fun _=>rfl,f5,f6,f7,f8,f11,X,k,Y⟩
  | 5,n =>
   cases n;have d3:=f3 (dt he 3);have d4:=f4 (dt he 4);rcases bf with⟨rfl,rfl,rfl,rfl,rfl,ac⟩ | ⟨rfl,ac⟩
   ·simp only [↓rA,rU,D,k,d3,d4,ac,simprocAttr];exact lP ⟨by exact qA,M,O,P,T,U,W,f0,f1,f2,f3,f4,fun _=>rfl,f6,f7,f8,f11,X,k,Y⟩
   ·simp only [↓rA,rU,D,k,d3,d4,ac,simprocAttr];exact lP ⟨by exact qA,M,O,P,T,U,W,f0,f1,f2,f3,f4,fun _=>rfl,f6,f7,f8,f11,X,k,Y⟩
  | 6,n =>
   cases n;have d5:=f5 (dt he 5);refine qa ?_;exact lP ⟨w,M,O,P,T,U,W,f0,f1,f2,f3,f4,f5,fun _=>rfl,f7,f8,f11,X,k,Y⟩
  | 7,n =>
   cases n;have d6:=f6 (dt he 6);refine qa ?_;exact lP ⟨w,M,O,P,T,U,W,f0,f1,f2,f3,f4,f5,f6,fun _=>rfl,f8,f11,X,k,Y⟩
  | 8,n =>
   cases n;have d6:=f6 (dt he 6);refine qa ?_;exact lP ⟨w,M,O,P,T,U,W,f0,f1,f2,f3,f4,f5,f6,f7,fun _=>rfl,f11,X,k,Y⟩
  | 11,n =>
   cases n;have d8:=f8 (dt he 8);refine qa ?_;exact lP ⟨w,M,O,P,T,U,W,f0,f1,f2,f3,f4,f5,f6,f7,f8,fun _=>rfl,X,k,Y⟩
  | 9,n =>
   cases n;rcases Y with⟨_,q0,rfl⟩ | ⟨q0,_⟩
   case inr=>rw [hL] at q0;cases q0
   simp only [↓rA,rU,w,simprocAttr];refine fun b hb=>?_;replace hb:=zS hb;rw [k,qKv] at hb;exact⟨_,_,_,_,zc _,zc _,(show ((b,B.c [vint 0,vint 0,vstr qH,.lit (.map none)])::S.boxes).Perm ([(b9,B.c [vstr name,vstr key]),(C,B.c [vint 0,vint 0,vstr qH]),(o,mI g J),(A,B.c (qT c++[qZ rows,vint t,mp d,mp a])),(d,mD G cd),(a,mB H cb)]++([(b,B.c [vint 0,vint 0,vstr qH,.lit (.map none)])]++dl Z f)) by rw [k];exact(ux (l₁:=[(b9,B.c [vstr name,vstr key]),(C,B.c [vint 0,vint 0,vstr qH]),(o,mI g J),(A,B.c (qT c++[qZ rows,vint t,mp d,mp a])),(d,mD G cd),(a,mB H cb)])).symm),zp _,w,M,O,P,T,U,W,f0,f1,f2,f3,f4,f5,f6,f7,f8,f11,[(b,.c [vint 0,vint 0,vstr qH,.lit (.map none)])],rfl,.inr ⟨rfl,b,_,_,_,_,rfl,rfl,hb,fun h=>by rw [show L 10=true from h] at q0;cases q0⟩⟩
  | 10,n =>
   cases n;have l9:=dt he 9;have d7:=f7 (dt he 7);rcases Y with⟨q0,_⟩ | ⟨_,b,u0,u1,u2,u3,rfl,ed,hb,_⟩
   ·rw [l9] at q0;cases q0
   have a5:=hb;simp only [Nb,List.cons_append,List.nil_append] at a5;refine qa ?_;exact lP ⟨by exact qA,M,O,P,T,U,W,f0,f1,f2,f3,f4,f5,f6,f7,f8,f11,[_],rfl,.inr ⟨l9,b,_,_,_,_,rfl,ed,hb,fun _=>rfl⟩⟩
 ·intro L S hL ⟨w,M,O,P,T,U,W,f0,f1,f2,f3,f4,f5,f6,f7,f8,f11,X,k,Y⟩;rcases Y with⟨q0,_⟩ | ⟨_,b,u0,u1,u2,u3,rfl,ed,hb,hu⟩
  ·rw [hL 9 (by simp)] at q0;cases q0
  replace hu:=hu (hL 10 (by simp));replace f0:=f0 (hL 0 (by simp));replace f1:=f1 (hL 1 (by simp));replace f2:=f2 (hL 2 (by simp));replace f3:=f3 (hL 3 (by simp));replace f4:=f4 (hL 4 (by simp));replace f5:=f5 (hL 5 (by simp));replace f6:=f6 (hL 6 (by simp));replace f7:=f7 (hL 7 (by simp));replace f8:=f8 (hL 8 (by simp));replace f11:=f11 (hL 11 (by simp));simp only [qKi,and_true] at hu;obtain⟨rfl,rfl,rfl,rfl⟩:=hu;have a8:b ∉ Z:=Jh hb.2.2.2.2.2.2;simp only [List.cons_append,List.nil_append] at k;simp only [Nb,List.cons_append,List.nil_append] at hb;have D:=aI D hb;have g0:=M;have g1:=O;have g2:=P;have g3:=T;have g8:=U;have g9:=W;have aU:=f11;have ae:=ed;clear M O P T U W f0 f1 f2 f3 f4 f5 f6 f7 f8 f11 ed;obtain⟨I,rfl⟩:∃ x,x=b:=⟨b,rfl⟩;rw [zu];refine xe (qMg c rows t fv fi A d a o C β name key g J) ?_ ?_
  ·rcases hz with⟨rfl,p,hq,rfl,rfl,rfl,rfl⟩ | ⟨rfl,rfl,rfl,rfl,rfl⟩
   ·have hp:=(xh hq).1;have hk:=(xh hq).2;obtain⟨h1,ap,gj,cj,az,aD⟩:=hM.pl p hp;rw [<-hk] at h1 aD;simp only at h1 aD;rw [h1] at k;generalize p.2.2.2=j at ap az k;have bt:=qcv ap az;have ne:∀ x,x ∉ Z->j ≠ x/\x ≠ j:=fun x hx=>⟨fun e=>hx (e▸ap),fun e=>hx (e▸ap)⟩;have hj:=aI (ne _ ni) (aI (ne _ nw) (aI (ne _ nd) (aI (ne _ nb) (aI (ne _ aW) (aI (ne _ aY) (ne _ a8))))));have aB:=JL (f:=f) ap;rw [az] at aB;refine qa ?_;refine⟨by exact qA,by exact qA,by exact qA,I,j,gj,cj,(A,.c (qT c++[qZ rows,vint t,mp d,mp a]))::(d,mD G cd)::(a,mB H cb)::dl (Z.erase j) f,(C,.c [vint 0,vint 0,vstr qH])::(o,mI g J)::(A,.c (qT c++[qZ rows,vint t,mp d,mp a]))::(d,mD G cd)::(a,mB H cb)::(I,.c [vint (fv name key).kind,vint (fv name key).n,vstr (fv name key).s,mp j])::dl Z f,by exact qA,aD,by exact qA,by exact qA,by simp only [D,hj,ne_eq,not_false_eq_true,and_self],?_,?_,fun K aa e' ag=>⟨(o,mI K aa)::(A,.c (qT c++[qZ rows,vint t,mp d,mp a]))::(d,mD G cd)::(a,mB H cb)::dl Z f,?_,G,cd,H,cb,K,aa,Z,f,hM,hB,ag,⟨nw,nd,nb,ni⟩,rfl⟩⟩
    ·show List.Sublist _ S.boxes;rw [k];simp
    ·exact(ux (l₁:=[_,_,_,_,_])).trans ((aB.append_left [_,_,_,_,_,_]).trans (ux (l₁:=[_,_,_,_,_,_])))
    ·exact(ux (l₁:=[_,_,_,_])).symm.trans (aB.symm.append_left [_,_,_,_])
   ·cases ao:xl c.features name with
    | none =>
     have hv:=hS.val name hN key;have hid:=fun i=>hS.ids name hN key i;rw [ao] at al;simp only [ao] at hv hid;simp only [J4,qs] at al;refine qi _ al ?_;refine qb fun ad ak=>?_;have D:=aI D ak;simp only [↓rA,rU,w,g8,D,simprocAttr];refine⟨_,(o,mI g J)::(A,.c (qT c++[qZ rows,vint t,mp d,mp a]))::(d,mD G cd)::(a,mB H cb)::dl Z f,[],Le.refl _,(((((((zc _).cons _).cons_cons _).cons_cons _).cons_cons _).cons_cons _).cons _).cons _ |>.cons _,zn _,⟨by rw [hv],_,zp _,WB.congr ⟨G,cd,H,cb,g,J,Z,f,hM,hB,hs,⟨nw,nd,nb,ni⟩,rfl⟩ fun i=>⟨.inl,fun h=>h.elim id fun h=>((hid i).1 h).elim⟩⟩,rfl⟩
    | some u =>
     obtain⟨bm,ba,be⟩:=hS.ref name hN u ao;have hv:=hS.val name hN key;have hid:=fun i=>hS.ids name hN key i;simp only [ao] at hv hid;rw [ao] at al;simp only [J4,qs] at al;have aw:=zb (cV:=vBo) kW name H;have bv:=xI (cV:=vBo) kW name true H;refine qi _ al ?_;refine qa ?_;refine fun ad ak=>?_;replace ak:=zS ak;simp only [Nb] at ak;have D:=aI D ak;simp only [↓qJ,↓zx,↓zA,↓ua,↓wR,zw,qu,kM,vA,wB,jx,wz,yd,ky,uk,vv,Xe,kO,jA,jZ,zP,j1,yh,xB,Xu,yx,w3,eq_self,and_self,not_false_eq_true,ne_eq,z7,Jx,List.take_zero,qL1,qO3,List.length_cons,List.length_nil,List.nil_append,wl,qJ0,qM9,Nat.reduceEqDiff,Nat.reduceAdd,w,tU,Nat.reduceShiftRight,Nat.reduceMod];rw [zu];refine xe (fun S=>S.rows=[]/\S.σ 0=ptr A/\S.σ 1=vstr name/\S.σ 2=vstr key/\S.σ 3=mp o/\S.σ 8=ptr C/\S.σ 9=ptr b9/\S.σ 10=ptr I/\S.σ 12=ptr ad/\S.boxes=(ad,.c (cF u u.body.hd (kI u.body.args)))::(b9,.c [vstr name,vstr key])::(C,.c [vint 0,vint 0,vstr qH])::(o,mI g J)::(A,.c (qT c++[qZ rows,vint t,mp d,mp a]))::(d,mD G cd)::(a,mB H cb)::(I,.c [vint 0,vint 0,vstr qH,.lit (.map none)])::dl Z f) ?_ ?_
     ·cases af:zy H name with
      | some q =>
       have q2:q.2.2=false:=by
        have:=hB name;unfold QU at this;rw [af,aS] at this;exact this
       rw [af,qA4,q2] at aw;exact kK
      | none =>
       rw [af,qI9] at aw;exact kK
     clear w g0 g1 g2 g3 g8 g9 ae aU k;rintro S ⟨w,g0,g1,g2,g3,g8,g9,ae,aE,k⟩;rw [zu];refine xe (fun S=>S.rows=[]/\S.σ 0=ptr A/\S.σ 1=vstr name/\S.σ 2=vstr key/\S.σ 3=mp o/\S.σ 8=ptr C/\S.σ 9=ptr b9/\S.σ 10=ptr I/\S.σ 12=ptr ad/\∃ am ar,(∀ m,QU am m=if m=name then true else β m)/\S.boxes=(ad,.c (cF u u.body.hd (kI u.body.args)))::(b9,.c [vstr name,vstr key])::(C,.c [vint 0,vint 0,vstr qH])::(o,mI g J)::(A,.c (qT c++[qZ rows,vint t,mp d,mp a]))::(d,mD G cd)::(a,mB am ar)::(I,.c [vint 0,vint 0,vstr qH,.lit (.map none)])::dl Z f) ?_ ?_
     ·cases af:zy H name with
      | some q =>
       rw [af,qA4] at aw;refine qa ?_;exact⟨ko name true H,cb,fun m=>by rw [qaf af,hB],rfl⟩
      | none =>
       rw [af,qI9] at aw;refine qa ?_;exact⟨H++[(cb,name,true)],cb+1,fun m=>by rw [qq7 af,hB],by simp⟩
     clear w g0 g1 g2 g3 g8 g9 ae aE k;rintro S ⟨w,g0,g1,g2,g3,g8,g9,ae,aE,am,ar,aZ,k⟩;refine qa ?_;refine fun y hk=>?_;replace hk:=zS hk;simp only [Nb] at hk;have bh:=Jh hk.2.2.2.2.2.2.2.2;have D:=aI D hk;have aG:=hE (rk name) hR u.body be ba bm key A d a y (fun m=>if m=name then true else β m) (fun _=>False) ((y,mI [] 0)::(A,.c (qT c++[qZ rows,vint t,mp d,mp a]))::(d,mD G cd)::(a,mB am ar)::dl Z f) (by unfold Ap4;simp only [D,ne_eq,not_false_eq_true,and_self]) (fun m hm hr=>by
      by_cases e:m=name
      ·subst e;omega
      ·rw [if_neg e];exact aR m hm (by omega)) ⟨G,cd,am,ar,[],0,Z,f,hM,aZ,ug.nil,⟨nw,nd,nb,bh⟩,rfl⟩
     rw [vE,qY] at aG;refine qB ?_;refine qr _ [] ?_ (Ok.frame [(ad,.c (cF u u.body.hd (kI u.body.args))),(b9,.c [vstr name,vstr key]),(C,.c [vint 0,vint 0,vstr qH]),(o,mI g J),(I,.c [vint 0,vint 0,vstr qH,mp y])] aG) ?_
     ·rw [wl];exact((ux (l₁:=[_,_,_])).append_left [_,_,_,_,_]).trans (ux (l₁:=[_,_,_,_,_])).symm
     rintro v _ rs ⟨b1,rfl,a3,rfl,⟨G2,au,ab,ai,gs,cs,L2,f2,a1,aF,aq,⟨mw,md,mb,mk⟩,rfl⟩,rfl⟩;have a4:=qLh (X:=[(ad,.c (cF u u.body.hd (kI u.body.args))),(b9,.c [vstr name,vstr key]),(C,.c [vint 0,vint 0,vstr qH]),(o,mI g J),(I,.c [vint 0,vint 0,vstr qH,mp y]),(y,mI gs cs),(A,.c (qT c++[qZ rows,vint t,mp d,mp a])),(d,mD G2 au),(a,mB ab ai)]) (L:=L2) (f:=f2) a3;have mi:o ∉ L2:=a4 _ (by simp);have ay:QU ab name=true:=(aF name).trans (if_pos rfl);have bc:=zb (cV:=vBo) kW name ab;have bx:=xI (cV:=vBo) kW name false ab;cases aC:zy ab name with
     | none=>unfold QU at ay;rw [aC] at ay;cases ay
     | some q2 =>
     rw [aC,qA4] at bc;have a0:∀ m,QU (ko name false ab) m=β m:=fun m=>by
      rw [qaf aC,aF];by_cases e:m=name
      ·subst e;rw [if_pos rfl,aS]
      ·exact(if_neg e).trans (if_neg e)
     have aO:ug gs cs (fi name key):=aq.congr fun i=>⟨fun h=>h.elim (fun h=>h.elim) fun h=>(hid i).2 h,fun h=>.inr ((hid i).1 h)⟩;have aJ:=zb (cV:=cKn) YP (name,key) G2;have bz:=xI (cV:=cKn) YP (name,key) (jt c rows t fv u.body key,y) G2;have fin:∀ (S:St) (G3:List (Nat × (Str × Str) × (Val × Nat))) (aj:Nat),(∀ p ∈ G3,p ∈ G2∨(p.2.1=(name,key)/\p.2.2=(jt c rows t fv u.body key,y)))->S.rows=[]->S.σ 3=mp o->S.σ 8=ptr C->S.σ 10=ptr I ->
       S.boxes=(ad,.c (cF u u.body.hd (kI u.body.args)))::(b9,.c [vstr name,vstr key])::(C,.c [vint 0,vint 0,vstr qH])::(o,mI g J)::(I,.c [vint (jt c rows t fv u.body key).kind,vint (jt c rows t fv u.body key).n,vstr (jt c rows t fv u.body key).s,mp y])::(y,mI gs cs)::(A,.c (qT c++[qZ rows,vint t,mp d,mp a]))::(d,mD G3 aj)::(a,mB (ko name false ab) ai)::dl L2 f2->qMg c rows t fv fi A d a o C β name key g J S:=fun S G3 aj hG w g3 g8 ae k=>by
      rw [<-hv] at hG k;have a2:=a1.put mk aO hG;have aT:dl (y::L2) (Zb f2 y (mI gs cs))=(y,mI gs cs)::dl L2 f2:=by
       rw [<-qlr (f:=f2) (z:=mI gs cs) mk];simp only [dl,z7,vh]
      refine⟨w,g3,g8,I,y,gs,cs,(A,.c (qT c++[qZ rows,vint t,mp d,mp a]))::(d,mD G3 aj)::(a,mB (ko name false ab) ai)::dl L2 f2,(C,.c [vint 0,vint 0,vstr qH])::(o,mI g J)::(I,.c [vint (fv name key).kind,vint (fv name key).n,vstr (fv name key).s,mp y])::(y,mI gs cs)::(A,.c (qT c++[qZ rows,vint t,mp d,mp a]))::(d,mD G3 aj)::(a,mB (ko name false ab) ai)::dl L2 f2,ae,aO,by exact qA,by exact qA,by simp only [D,ne_eq,not_false_eq_true,and_self],?_,?_,fun K aa e' ag=>⟨(o,mI K aa)::(A,.c (qT c++[qZ rows,vint t,mp d,mp a]))::(d,mD G3 aj)::(a,mB (ko name false ab) ai)::dl (y::L2) (Zb f2 y (mI gs cs)),?_,G3,aj,ko name false ab,ai,K,aa,y::L2,Zb f2 y (mI gs cs),a2,a0,ag,?_,rfl⟩⟩
      ·rw [k];simp
      ·exact((x8 (l₁:=[_,_]) (l₂:=[_,_])).trans (List.Perm.swap _ _ _)).append_right _
      ·rw [aT];exact(ux (l₁:=[_,_,_,_])).symm
      ·simp only [xb,not_or,D,not_false_eq_true,true_and];exact qD
     cases aM:zy G2 (name,key) with
     | some qd =>
      rw [aM,qA4] at aJ;refine qa ?_;exact fin _ (ko (name,key) (jt c rows t fv u.body key,y) G2) au (fun p hp=>qCm hp) (by rfl) (by exact qA) (by exact qA) (by exact qA) (by rfl)
     | none =>
      rw [aM,qI9] at aJ;refine qa ?_;exact fin _ (G2++[(au,(name,key),(jt c rows t fv u.body key,y))]) (au+1) (fun p hp=>(z6.1 hp).imp id fun h=>by rw [kl.1 h];simp) (by rfl) (by exact qA) (by exact qA) (by exact qA) (by refine qB ?_;simp)
  ·rintro S ⟨w,g3,g8,I,j,g2,c2,R0,bs,ae,aq,bq,br,bg,aQ,aL,a7⟩;refine qa ?_;refine fun ib hi=>?_;replace hi:=zS hi;have ax:∀ p ∈ ((j,mI g2 c2)::(I,B.c [vint (fv name key).kind,vint (fv name key).n,vstr (fv name key).s,mp j])::(C,B.c [vint 0,vint 0,vstr qH])::(o,mI g J)::R0),p.1 ≠ ib/\ib ≠ p.1:=fun p hp=>qHs hi p (aQ.subset (aL.mem_iff.2 hp));have hx:=aI (ax _ (.head _)) (aI (ax _ (.tail _ (.head _))) (aI (ax _ (.tail _ (.tail _ (.head _)))) (ax _ (.tail _ (.tail _ (.tail _ (.head _)))))));have aX:=h8.1;simp only at hx;have D:=aI hx (aI bg aX);refine qa ?_;refine jE Ty.mixed (by rfl) (fun x:List Nat × List FID=>(xP g2 x.1).length) (fun x S=>ve (fun q:FID × Unit=>some q.1) g2 x.1 x.2/\(∃ K aa,ug K aa (fun i=>e i∨i ∈ x.2)/\S.boxes=(ib,.it j c2 x.1 c2)::(j,mI g2 c2)::(I,.c [vint (fv name key).kind,vint (fv name key).n,vstr (fv name key).s,mp j])::(C,.c [vint 0,vint 0,vstr qH])::(o,mI K aa)::R0)/\S.rows=[]/\S.σ 3=mp o/\S.σ 8=ptr C/\S.σ 10=ptr I/\S.σ 77=ptr ib) ([],[]) ⟨(ib,.it j c2 [] c2)::bs,[],_,[],?_,?_,aL.cons _,zp _,?_⟩ (fun⟨seen,an⟩ S ⟨aA,⟨K,aa,ag,k⟩,w,g3,g8,ae,bp⟩=>?_)
   ·refine qB ?_;exact aQ.cons_cons _
   ·simp
   ·refine qB ?_;exact⟨ve.start _,g,J,hs.congr fun i=>⟨.inl,fun h=>h.elim id fun h=>by cases h⟩,rfl⟩
   ·simp only at aA ag k;refine qa ?_;refine⟨fun hl=>?_,fun en he hf=>?_⟩
    ·rw [qU] at hl;have aH:=aA.done (by simpa [qP] using hl);rw [qn4] at aH;have av:∀ i,(e i∨i ∈ an)↔(e i∨fi name key i):=fun i=>by rw [aH.mem_iff,<-Kw,aq.mem i]
     obtain⟨ah,bl,bn⟩:=a7 K aa _ (ag.congr av);refine qa ?_;exact⟨_,(j,mI g2 c2)::(o,mI K aa)::R0,[],Le.refl _,(((zc _).cons _).cons _).cons_cons _ |>.cons _,zn _,⟨rfl,ah,bl,bn⟩,rfl⟩
    ·rw [qU] at he;obtain⟨p,hp,rfl⟩:=x9.1 he;have aP:=aA.step aq.apart hp;have aK:=xW aq.apart hp;have bu:(seen++[p.1]).getLast? = some p.1:=by simp
     have ac:=zb (cV:=vTt) jn p.2.1 K;have bj:=xI (cV:=vTt) jn p.2.1 () K;rw [ZM] at bj;have av:∀ i,((e i∨i ∈ an)∨i=p.2.1)↔(e i∨i ∈ an++[p.2.1]):=fun i=>by rw [z6,kl,or_assoc]
     simp only at hf;refine qb fun bo aV=>?_;have D:=aI D aV;cases hq:zy K p.2.1 with
     | some q =>
      rw [hq,qA4] at ac;refine qa ?_;refine⟨(seen++[p.1],an++[p.2.1]),aK,_,_,_,_,List.Sublist.cons _ (zc _),zc _,zp _,zp _,aP,⟨K,aa,(ag.old hq).congr av,rfl⟩,?_⟩;exact qA
     | none =>
      rw [hq,qI9] at ac;refine qa ?_;refine⟨(seen++[p.1],an++[p.2.1]),aK,_,_,_,_,List.Sublist.cons _ (zc _),zc _,zp _,zp _,aP,⟨K++[(aa,p.2.1,())],aa+1,(ag.new hq).congr av,?_⟩,?_⟩
      ·simp only [mI,qP,k8,z7,Jx];rfl
      exact qD
end Go.Proofs.YtkdgbjhbpbgdeaaGreatDoor
namespace Go.Nv
variable {h:Hd} {vs:List Val} {d:List (FID->Prop)} {a:FID->Prop} {key:Str}
theorem qDi {feaI:Str->Str->FID->Prop} (k:h.kind=1) (i:FID):¬ idH feaI h vs d a key i:=by unfold idH;simp_all
theorem qDj {feaI:Str->Str->FID->Prop} (k:h.kind=3) (i:FID):idH feaI h vs d a key i↔feaI h.name key i:=by unfold idH;simp_all
theorem Ku {feaI:Str->Str->FID->Prop} (k:h.kind=4) (i:FID):idH feaI h vs d a key i↔(vs.length=1/\(d.getD 0 (fun _=>False) i∨((vs.getD 0 val0).kind=5/\feaI h.name (vs.getD 0 val0).s i))):=by unfold idH;simp_all
theorem qn3 {feaI:Str->Str->FID->Prop} (k:h.kind=5) (i:FID):idH feaI h vs d a key i↔a i:=by unfold idH;simp_all
theorem qn2 {feaI:Str->Str->FID->Prop} (e:¬ h.kind=1) (j:¬ h.kind=3) (k:¬ h.kind=4) (n:¬ h.kind=5) (i:FID):idH feaI h vs d a key i↔(xV h.kind ≠ 0/\xV h.kind=vs.length/\(d.getD 0 (fun _=>False) i ∨
  (
    if h.kind=7 then d.getD 1 (fun _=>False) i else if h.kind=8 then (if uH (vs.getD 0 val0) then d.getD 1 (fun _=>False) i else d.getD 2 (fun _=>False) i)
    else h.kind=9/\(vs.getD 0 val0).kind=0/\d.getD 1 (fun _=>False) i))):=by unfold idH;simp_all
end Go.Nv
namespace Go.Proofs.YtkdgbjhbpbgdeaaGreatDoor
def qDh (c:Cat) (rows:List Rw) (t:Int) (fv:Str->Str->Val) (fi:Str->Str->FID->Prop) (l:List E) (key:Str) (e:FID->Prop) (es:List Nat) (i:FID):Prop:=e i∨∃ k ∈ es,W8 c rows t fv fi (l.getD k exp0) key i
variable {c:Cat} {t:Int} {fv:Str->Str->Val} {fi:Str->Str->FID->Prop} {key:Str}
theorem qxt {rows:List Rw} {h:Hd} {l:List E} {e:FID->Prop} (D:¬ h.kind=1) (F:¬ h.kind=3) (G:¬ h.kind=4) (H:¬ h.kind=5) (i:FID) :
  qDh c rows t fv fi l key e (yq h l.length fun k=>jt c rows t fv (l.getD k exp0) key) i↔(e i∨idH fi h (l.map fun x=>jt c rows t fv x key) (l.map fun x=>W8 c rows t fv fi x key) (VF c rows t h l key) key i):=by
 have C:∀ k,k < l.length->(l.map fun x=>jt c rows t fv x key).getD k val0=jt c rows t fv (l.getD k exp0) key:=fun k u=>by
  simp_all
 have n:∀ k,k < l.length->(l.map fun x=>W8 c rows t fv fi x key).getD k (fun _=>False)=W8 c rows t fv fi (l.getD k exp0) key:=fun k u=>by
  simp_all
 unfold qDh;rw [qn2 D F G H,zz];refine or_congr qRo ?_;unfold yq;by_cases o:xV h.kind=0∨xV h.kind ≠ l.length
 ·rw [if_pos o];constructor
  ·simp
  omega
 rw [if_neg o];simp only [not_or,ne_eq,Decidable.not_not] at o;obtain⟨q,p⟩:=o;have J:∀ k,xV h.kind=k->0 < k->k=l.length:=fun k u _=>by omega
 have y:0 < l.length:=by omega
 rw [C 0 y,n 0 y];have A:∀ P:Prop,(xV h.kind ≠ 0/\xV h.kind=l.length/\P)↔P:=fun P=>⟨fun h=>h.2.2,fun h=>⟨q,p,h⟩⟩;rw [A];by_cases j:h.kind=6
 ·simp_all
 by_cases a:h.kind=7
 ·have z:1 < l.length:=by rw [<-p];unfold xV;rw [if_neg j,if_pos a];decide
  simp_all
 by_cases d:h.kind=8
 ·have I:2 < l.length:=by rw [<-p];unfold xV;rw [if_neg j,if_neg a,if_pos d];decide
  rw [if_neg j,if_neg a,if_pos d,if_neg a,if_pos d,n 1 (by omega),n 2 I];split <;> simp
 have w:h.kind=9:=by
  unfold xV at q;rw [if_neg j,if_neg a,if_neg d] at q;by_cases w:h.kind=9
  ·omega
  ·simp_all
 have z:1 < l.length:=by rw [<-p];unfold xV;rw [if_neg j,if_neg a,if_neg d,if_pos w];decide
 rw [if_neg j,if_neg a,if_neg d,if_neg a,if_neg d,n 1 z];split
 ·simp_all
 simp_all
def qNy (c:Cat) (rows:List Rw) (t:Int) (fv:Str->Str->Val) (fi:Str->Str->FID->Prop) (h:Hd) (a:E) (key:Str) (j w u d n k o p q:Nat) (A:Str->Bool) (e:FID->Prop) (v0:Val) (L:Nat->Bool) (S:St):Prop :=
 S.rows=[]/\S.σ 4=ptr n/\S.σ 5=ptr k/\S.σ 6=ptr o/\S.σ 7=ptr p/\S.σ 8=ptr q/\(L 0=true->S.σ 37=ptr j)/\(L 1=true->S.σ 38=pt k 11)/\(L 2=true->S.σ 39=kI [a])/\(L 3=true->S.σ 40=.ref (Go.Lo.cH a.hd (kI a.args)))/\(L 4=true->S.σ 41=.agg (Go.Lo.cH a.hd (kI a.args)))/\(L 5=true->S.σ 42=vstr key)/\(L 6=true->S.σ 43=mp d)/\(L 7=true->S.σ 44=.agg (qS v0)) /\
 ∃ (X W:Bx),S.boxes=[(q,.c [vint 0,vint 0,vstr qH]),(p,.c [mp d]),(o,.c [vstr key]),(k,.c (jP h [a])),(n,.c [ptr j])]++(X++W)/\((L 7=false/\WB c rows t fv fi j w u d A e W)∨(L 7=true/\WB c rows t fv fi j w u d A (fun i=>e i∨W8 c rows t fv fi a key i) W))/\((L 8=false/\L 9=false/\X=[])∨(L 8=true/\∃ b x y z,X=[(b,.c [x,y,z])]/\S.σ 9=ptr b/\Nb b ([(q,.c [vint 0,vint 0,vstr qH]),(p,.c [mp d]),(o,.c [vstr key]),(k,.c (jP h [a])),(n,.c [ptr j])])/\(L 9=true->[x,y,z]=qS v0)))
def qNw (c:Cat) (rows:List Rw) (t:Int) (h:Hd) (l:List E) (key:Str) (a j e k n d o p q:Nat) (g:List (Nat × FID × Unit)) (cl:Nat) (G:List (Nat × (Str × Str) × (Val × Nat))) (y:Nat) (u:List (Nat × Str × Bool)) (x:Nat) (w:List Nat) (f:Nat->B) (tb:Tab) (ok:Bool) (L:Nat->Bool) (S:St):Prop :=
 S.rows=[]/\S.σ 4=ptr n/\S.σ 5=ptr d/\S.σ 6=ptr o/\S.σ 7=ptr p/\S.σ 8=ptr q/\(L 0=true->S.σ 59=ptr a)/\(L 1=true->S.σ 60=ptr a)/\(L 2=true->S.σ 61=pt a 0)/\(L 3=true->S.σ 62=.agg (qT c))/\(L 4=true->S.σ 63=pt d 3)/\(L 5=true->S.σ 64=vstr h.table)/\(L 6=true->S.σ 65=.tup [.agg (cTab tb),qq ok])/\(L 7=true->S.σ 58=.tup [.agg (cTab tb),qq ok])/\(L 8=true->S.σ 66=.agg (cTab tb))/\(L 9=true->S.σ 67=qq ok)/\(L 12=true->S.σ 11=qq ok) /\
 ∃ (X:Bx),S.boxes=[(q,.c [vint 0,vint 0,vstr qH]),(p,.c [mp k]),(o,.c [vstr key]),(d,.c (jP h l)),(n,.c [ptr a]),(k,mI g cl),(a,.c (qT c++[qZ rows,vint t,mp j,mp e])),(j,mD G y),(e,mB u x)]++(X++dl w f)/\((L 10=false/\L 11=false/\X=[])∨(L 10=true/\∃ b z A C D,X=[(b,.c [z,A,C,D])]/\S.σ 10=ptr b/\Nb b ([(q,.c [vint 0,vint 0,vstr qH]),(p,.c [mp k]),(o,.c [vstr key]),(d,.c (jP h l)),(n,.c [ptr a]),(k,mI g cl),(a,.c (qT c++[qZ rows,vint t,mp j,mp e])),(j,mD G y),(e,mB u x)]++dl w f)/\(L 11=true->[z,A,C,D]=cTab tb)))
def Qj (tb:Tab) (a:E) (d:List Rw) (i:Nat):List (List V):=((d.take i).map fun r=>jT tb r a).map qS
theorem qd8 (tb:Tab) (a:E) (d:List Rw) (i:Nat) (h:i < d.length):Qj tb a d (i+1)=Qj tb a d i++[qS (jT tb d[i] a)]:=by
 unfold Qj;rw [zt h,k8,k8];rfl
def qNt (tb:Tab) (a:E) (d:List Rw) (i:Nat) (S:St):Prop:=(i=0/\S.rows=[]/\S.σ 13=nilS)∨∃ y,S.rows=[⟨y,3,37⟩]/\S.σ 13=.list (some y) 3 (Qj tb a d i)
theorem qyh {rows:List Rw} {h:Hd} {l:List E} {p x w o:Nat} {y:Str->Bool} {e:FID->Prop} (i:Nat) (G:i < l.length) (a d k n:Nat)
  (hb:(n ≠ k/\k ≠ n)/\(n ≠ d/\d ≠ n)/\(n ≠ a/\a ≠ n)/\(k ≠ d/\d ≠ k)/\(k ≠ a/\a ≠ k)/\(d ≠ a/\a ≠ d)) (W:Bx)
  (hc:Ok prog 64 [ptr p,vE l[i],vstr key,mp o] W fun v u rs=>v=.agg (qS (jt c rows t fv l[i] key))/\WB c rows t fv fi p x w o y (fun j=>e j∨W8 c rows t fv fi l[i] key j) u/\rs=[]) :
  Ok prog 95 [vint i,ptr a,ptr d,ptr k,ptr n] ((n,.c [mp o])::(k,.c [vstr key])::(d,.c (jP h l))::(a,.c [ptr p])::W) fun v u rs=>v=.agg (qS (jt c rows t fv l[i] key))/\(∃ q,WB c rows t fv fi p x w o y (fun j=>e j∨W8 c rows t fv fi l[i] key j) q/\u=(n,.c [mp o])::(k,.c [vstr key])::(d,.c (jP h l))::(a,.c [ptr p])::q)/\rs=[]:=by
 rw [vE,qY] at hc;refine Ok.of_exM [(1,4)] Ty.mixed func95 rfl (by simp) (by rfl) fun F J H=>?_;refine qb fun z A=>?_;have D:=aI hb A;simp only [↓rA,rU,D,zq,G,qY,simprocAttr];refine qr _ [] (qKy (wl _).symm) (Ok.frame [(z,.c [vint 0,vint 0,vstr qH]),(n,.c [mp o]),(k,.c [vstr key]),(d,.c (jP h l)),(a,.c [ptr p])] hc) ?_;rintro v _ rs ⟨q,rfl,I,rfl,C,rfl⟩;refine qa ?_;exact⟨_,_,[],Le.refl _,(zc _).cons _,zn _,rfl,⟨q,C,rfl⟩,rfl⟩
variable {N:Str->Prop}
theorem qob (aA:CalcOk) {rows:List Rw} {rk:Str->Nat} (hS:qJ9 c rows t N rk fv fi) (a6:c.tables.length<=1000000) (a5:0<=t/\t<=1099511627776) (R:Nat) (hF:qmz c rows t N rk fv fi R):qAr c rows t N rk fv fi R:=by
 intro x
 induction x using E.ind with
 | h h l ih =>
 intro aK aW ad key H T Q D β e bs hd av z;have a2:=aK.len;have ao:=aK.args;simp only [E.args] at a2 ao;obtain⟨_,_,aX,aC⟩:=aW;rw [qb7] at ad;rw [qc1,qk7,vE,wI];refine Ok.of_exM [(9,3),(14,3)] Ty.mixed func64 rfl (by simp) (by kernel_rfl) fun F w0 I0=>?_;refine qb fun b4 h4=>?_;refine qb fun b5 h5=>?_;refine qb fun b6 h6=>?_;refine qb fun b7 h7=>?_;refine qb fun b8 h8=>?_;have M:=aI h4 (aI h5 (aI h6 (aI h7 h8)));by_cases k1:h.kind=1
 ·have K1:=eq_true k1;rw [qod k1];refine qa ?_;exact⟨_,bs,[],Le.refl _,(((((zc _).cons _).cons _).cons _).cons _).cons _,zn _,rfl,z.congr fun i=>⟨.inl,fun K=>K.elim id fun K=>absurd K (qDi k1 i)⟩,rfl⟩
 by_cases k3:h.kind=3
 ·have K3:=eq_true k3;rw [if_neg k1,if_pos k3] at ad;have aB:=hF h.name (ad _ (by simp)).1 (ad _ (by simp)).2 key H T Q D β e bs hd av z;rw [qc2 k3];refine qa ?_;refine qr _ [] (qKy (wl _).symm) (Ok.frame [(b8,.c [vint 0,vint 0,vstr qH]),(b7,.c [mp D]),(b6,.c [vstr key]),(b5,.c (jP h l)),(b4,.c [ptr H])] aB) ?_;rintro v _ rs ⟨W',rfl,ap,rfl,ac,rfl⟩;refine qa ?_;exact⟨_,W',[],Le.refl _,(((((zc _).cons _).cons _).cons _).cons _).cons _,zn _,rfl,ac.congr fun i=>or_congr qRo (qDj k3 i).symm,rfl⟩
 by_cases k4:h.kind=4
 ·have K4:=eq_true k4;have k5:¬ h.kind=5:=by omega
  rw [if_neg k1,if_neg k3,if_neg k5,if_pos k4] at ad;by_cases aZ:l.length=1
  case neg =>
   have be:¬ (l.length:Int)=1:=by omega
   rw [KH k4,if_pos (by rw [zz];omega)];refine qa ?_;exact⟨_,bs,[],Le.refl _,(((((zc _).cons _).cons _).cons _).cons _).cons _,zn _,rfl,z.congr fun i=>⟨.inl,fun K=>K.elim id fun K=>absurd ((Ku k4 i).1 K).1 (by rw [zz];omega)⟩,rfl⟩
  obtain⟨x0,rfl⟩:=List.length_eq_one_iff.1 aZ;have aJ:∀ W,WB c rows t fv fi H T Q D β e W->Ok prog 64 [ptr H,.agg (Go.Lo.cH x0.hd (kI x0.args)),vstr key,mp D] W fun v bs rs=>v=.agg (qS (jt c rows t fv x0 key))/\WB c rows t fv fi H T Q D β (fun i=>e i∨W8 c rows t fv fi x0 key i) bs/\rs=[]:=fun W z=>by
   have:=ih x0 (by simp) (ao x0 (by simp)) (aC k5 x0 (by simp)) (fun m hm=>ad m (.tail _ (uS.2 ⟨x0,by simp,hm⟩))) key H T Q D β e W hd av z;rw [vE,qY] at this;omega
  simp only [↓rA,rU,M,k1,k3,K4,simprocAttr];refine yp Ty.mixed (by rfl) (by rfl) (qNy c rows t fv fi h x0 key H T Q D b4 b5 b6 b7 b8 β e (jt c rows t fv x0 key)) ?_ ?_ ?_
  ·exact⟨by rfl,by rfl,by rfl,by rfl,by rfl,by rfl,nofun,nofun,nofun,nofun,nofun,nofun,nofun,nofun,[],bs,by rfl,.inl ⟨rfl,z⟩,.inl ⟨rfl,rfl,rfl⟩⟩
  ·intro L S i o1 a o U ⟨w,p,u,A,C,J,f0,f1,f2,f3,f4,f5,f6,f7,X,W,d,z,I⟩
   match i,a with
   | 0,a =>
    cases a;refine qa ?_;exact lP ⟨w,p,u,A,C,J,fun _=>rfl,f1,f2,f3,f4,f5,f6,f7,X,W,d,z,I⟩
   | 1,a =>
    cases a;refine qa ?_;exact lP ⟨w,p,u,A,C,J,f0,fun _=>rfl,f2,f3,f4,f5,f6,f7,X,W,d,z,I⟩
   | 2,a =>
    cases a;have d1:=f1 (dt U 1);refine qa ?_;exact lP ⟨w,p,u,A,C,J,f0,f1,fun _=>rfl,f3,f4,f5,f6,f7,X,W,d,z,I⟩
   | 3,a =>
    cases a;have d2:=f2 (dt U 2);simp only [↓rA,rU,d2,qY,simprocAttr];exact lP ⟨w,p,u,A,C,J,f0,f1,f2,fun _=>rfl,f4,f5,f6,f7,X,W,d,z,I⟩
   | 4,a =>
    cases a;have d3:=f3 (dt U 3);refine qa ?_;exact lP ⟨w,p,u,A,C,J,f0,f1,f2,f3,fun _=>rfl,f5,f6,f7,X,W,d,z,I⟩
   | 5,a =>
    cases a;refine qa ?_;exact lP ⟨w,p,u,A,C,J,f0,f1,f2,f3,f4,fun _=>rfl,f6,f7,X,W,d,z,I⟩
   | 6,a =>
    cases a;refine qa ?_;exact lP ⟨w,p,u,A,C,J,f0,f1,f2,f3,f4,f5,fun _=>rfl,f7,X,W,d,z,I⟩
   | 7,a =>
    cases a;have d0:=f0 (dt U 0);have d4:=f4 (dt U 4);have d5:=f5 (dt U 5);have d6:=f6 (dt U 6);rcases z with⟨_,z⟩ | ⟨q1,_⟩
    case inr=>rw [o] at q1;cases q1
    rcases I with⟨p1,p2,rfl⟩ | ⟨p1,b,u0,u1,u2,rfl,ed,O,hu⟩
    ·refine qa ?_;refine qr _ [] (qKy (wl _).symm) (Ok.frame [(b8,.c [vint 0,vint 0,vstr qH]),(b7,.c [mp D]),(b6,.c [vstr key]),(b5,.c (jP h [x0])),(b4,.c [ptr H])] (aJ W z)) ?_;rintro v _ rs ⟨W',rfl,ap,rfl,ac,rfl⟩;refine qa ?_;exact lP ⟨by rfl,p,u,A,C,J,f0,f1,f2,f3,f4,f5,f6,fun _=>rfl,[],W',rfl,.inr ⟨rfl,ac⟩,.inl ⟨p1,p2,rfl⟩⟩
    ·refine qa ?_;refine qr _ [] (qKy (wl _).symm) (Ok.frame ([(b8,.c [vint 0,vint 0,vstr qH]),(b7,.c [mp D]),(b6,.c [vstr key]),(b5,.c (jP h [x0])),(b4,.c [ptr H])]++[(b,.c [u0,u1,u2])]) (aJ W z)) ?_;rintro v _ rs ⟨W',rfl,ap,rfl,ac,rfl⟩;refine qa ?_;exact lP ⟨by rfl,p,u,A,C,J,f0,f1,f2,f3,f4,f5,f6,fun _=>rfl,[(b,.c [u0,u1,u2])],W',rfl,.inr ⟨rfl,ac⟩,.inr ⟨p1,b,u0,u1,u2,rfl,ed,O,hu⟩⟩
   | 8,a =>
    cases a;rcases I with⟨_,P,rfl⟩ | ⟨P,_⟩
    case inr=>rw [o] at P;cases P
    simp only [↓rA,rU,w,simprocAttr];refine fun b O=>?_;replace O:=zS O;rw [d,qKv] at O;exact⟨_,_,_,_,zc _,zc _,(show ((b,B.c [vint 0,vint 0,vstr qH])::S.boxes).Perm ([(b8,B.c [vint 0,vint 0,vstr qH]),(b7,B.c [mp D]),(b6,B.c [vstr key]),(b5,B.c (jP h [x0])),(b4,B.c [ptr H])]++([(b,B.c [vint 0,vint 0,vstr qH])]++W)) by rw [d];exact(ux (l₁:=[(b8,B.c [vint 0,vint 0,vstr qH]),(b7,B.c [mp D]),(b6,B.c [vstr key]),(b5,B.c (jP h [x0])),(b4,B.c [ptr H])])).symm),zp _,w,p,u,A,C,J,f0,f1,f2,f3,f4,f5,f6,f7,[(b,.c [vint 0,vint 0,vstr qH])],W,rfl,z,.inr ⟨rfl,b,_,_,_,rfl,rfl,qdw O,fun h=>by rw [show L 9=true from h] at P;cases P⟩⟩
   | 9,a =>
    cases a;have l8:=dt U 8;have d7:=f7 (dt U 7);rcases I with⟨P,_⟩ | ⟨_,b,u0,u1,u2,rfl,ed,O,_⟩
    ·rw [l8] at P;cases P
    have az:=O;simp only [Nb] at az;refine qa ?_;exact lP ⟨by exact qA,p,u,A,C,J,f0,f1,f2,f3,f4,f5,f6,f7,[_],W,rfl,z,.inr ⟨l8,b,_,_,_,rfl,ed,O,fun _=>rfl⟩⟩
  ·intro L S o ⟨w,p,u,A,C,J,f0,f1,f2,f3,f4,f5,f6,f7,X,W,d,z,I⟩;rcases I with⟨P,_⟩ | ⟨_,b,u0,u1,u2,rfl,ed,O,hu⟩
   ·rw [o 8 (by simp)] at P;cases P
   replace hu:=hu (o 9 (by simp));replace f0:=f0 (o 0 (by simp));replace f1:=f1 (o 1 (by simp));replace f2:=f2 (o 2 (by simp));replace f3:=f3 (o 3 (by simp));replace f4:=f4 (o 4 (by simp));replace f5:=f5 (o 5 (by simp));replace f6:=f6 (o 6 (by simp));replace f7:=f7 (o 7 (by simp));rcases z with⟨q1,_⟩ | ⟨_,z⟩
   ·rw [o 7 (by simp)] at q1;cases q1
   simp only [qKi,and_true] at hu;obtain⟨rfl,rfl,rfl⟩:=hu;simp only [List.cons_append,List.nil_append] at d;simp only [Nb] at O;have M:=aI M O;by_cases kv:(jt c rows t fv x0 key).kind=5
   ·have KV:=eq_true kv;have aB:=hF h.name (ad _ (by simp)).1 (ad _ (by simp)).2 (jt c rows t fv x0 key).s H T Q D β _ W hd av z;simp only [↓rA,rU,p,u,C,ed,d,M,KV,simprocAttr];refine qr _ [] (qKy (wl _).symm) (Ok.frame [(b8,.c [vint 0,vint 0,vstr qH]),(b7,.c [mp D]),(b6,.c [vstr key]),(b5,.c (jP h [x0])),(b4,.c [ptr H]),(b,.c (qS (jt c rows t fv x0 key)))] aB) ?_;rintro v _ rs ⟨W',rfl,ap,rfl,ac,rfl⟩;refine qa ?_;rw [KH k4,if_neg (by simp),if_neg (by exact qD)];refine⟨_,W',[],Le.refl _,((((((zc _).cons _).cons _).cons _).cons _).cons _).cons _,zn _,rfl,ac.congr fun i=>?_,rfl⟩;rw [Ku k4];simp [kv,or_assoc]
   ·refine qa ?_;rw [KH k4,if_neg (by simp),if_pos (by assumption)];refine⟨_,W,[],Le.refl _,((((((zc _).cons _).cons _).cons _).cons _).cons _).cons _,zn _,rfl,z.congr fun i=>?_,rfl⟩;rw [Ku k4];simp [kv]
 by_cases k5:h.kind=5
 ·have K5:=eq_true k5;have ab:=aX k5;obtain⟨G,cd,Gb,cb,g,cl,Ln,f,hM,hB,hs,aO,rfl⟩:=z;clear M;simp only [Nb] at h4 h5 h6 h7 h8;have M:=aI hd (aI h4 (aI h5 (aI h6 (aI h7 h8))));have ai:=qbv c h.table a6;obtain⟨Y,ok,a4,ai⟩:∃ (Y:Tab) (ok:Bool),((ok=false/\ud c h.table=none)∨(ok=true/\ud c h.table=some Y))/\zk prog 9 [zO c,vstr h.table] (.tup [.agg (cTab Y),qq ok]):=by
   have et:ud c h.table=Q4 c.tables h.table:=rfl;rw [et];cases hq:Q4 c.tables h.table with
   | none=>rw [hq] at ai;exact⟨tab0,false,.inl ⟨rfl,rfl⟩,ai⟩
   | some Y=>rw [hq] at ai;exact⟨Y,true,.inr ⟨rfl,rfl⟩,ai⟩
  simp only [↓rA,rU,M,k1,k3,k4,K5,simprocAttr];refine yp Ty.mixed (by rfl) (by rfl) (qNw c rows t h l key H T Q D b4 b5 b6 b7 b8 g cl G cd Gb cb Ln f Y ok) ?_ ?_ ?_
  ·exact⟨by rfl,by rfl,by rfl,by rfl,by rfl,by rfl,nofun,nofun,nofun,nofun,nofun,nofun,nofun,nofun,nofun,nofun,nofun,[],by rfl,.inl ⟨rfl,rfl,rfl⟩⟩
  ·intro L S i o1 a o U ⟨w,p,u,A,C,J,f0,f1,f2,f3,f4,f5,f6,f7,f8,f9,f12,X,d,I⟩
   match i,a with
   | 0,a =>
    cases a;refine qa ?_;exact lP ⟨w,p,u,A,C,J,fun _=>rfl,f1,f2,f3,f4,f5,f6,f7,f8,f9,f12,X,d,I⟩
   | 1,a =>
    cases a;have d0:=f0 (dt U 0);refine qa ?_;exact lP ⟨w,p,u,A,C,J,f0,fun _=>rfl,f2,f3,f4,f5,f6,f7,f8,f9,f12,X,d,I⟩
   | 2,a =>
    cases a;have d1:=f1 (dt U 1);refine qa ?_;exact lP ⟨w,p,u,A,C,J,f0,f1,fun _=>rfl,f3,f4,f5,f6,f7,f8,f9,f12,X,d,I⟩
   | 3,a =>
    cases a;have d2:=f2 (dt U 2);refine qa ?_;exact lP ⟨w,p,u,A,C,J,f0,f1,f2,fun _=>rfl,f4,f5,f6,f7,f8,f9,f12,X,d,I⟩
   | 4,a =>
    cases a;refine qa ?_;exact lP ⟨w,p,u,A,C,J,f0,f1,f2,f3,fun _=>rfl,f5,f6,f7,f8,f9,f12,X,d,I⟩
   | 5,a =>
    cases a;have d4:=f4 (dt U 4);refine qa ?_;exact lP ⟨w,p,u,A,C,J,f0,f1,f2,f3,f4,fun _=>rfl,f6,f7,f8,f9,f12,X,d,I⟩
   | 6,a =>
    cases a;have d3:=f3 (dt U 3);have d5:=f5 (dt U 5);refine qi _ (ai) ?_;refine qa ?_;exact lP ⟨by rfl,p,u,A,C,J,f0,f1,f2,f3,f4,f5,fun _=>rfl,f7,f8,f9,f12,X,by rfl,I⟩
   | 7,a =>
    cases a;have d6:=f6 (dt U 6);refine qa ?_;exact lP ⟨w,p,u,A,C,J,f0,f1,f2,f3,f4,f5,f6,fun _=>rfl,f8,f9,f12,X,d,I⟩
   | 8,a =>
    cases a;have d7:=f7 (dt U 7);refine qa ?_;exact lP ⟨w,p,u,A,C,J,f0,f1,f2,f3,f4,f5,f6,f7,fun _=>rfl,f9,f12,X,d,I⟩
   | 9,a =>
    cases a;have d7:=f7 (dt U 7);refine qa ?_;exact lP ⟨w,p,u,A,C,J,f0,f1,f2,f3,f4,f5,f6,f7,f8,fun _=>rfl,f12,X,d,I⟩
   | 12,a =>
    cases a;have d9:=f9 (dt U 9);refine qa ?_;exact lP ⟨w,p,u,A,C,J,f0,f1,f2,f3,f4,f5,f6,f7,f8,f9,fun _=>rfl,X,d,I⟩
   | 10,a =>
    cases a;rcases I with⟨_,P,rfl⟩ | ⟨P,_⟩
    case inr=>rw [o] at P;cases P
    simp only [↓rA,rU,w,simprocAttr];refine fun b O=>?_;replace O:=zS O;rw [d,qKv] at O;exact⟨_,_,_,_,zc _,zc _,(show ((b,B.c [vstr qH,vstr qH,nilS,vint 0])::S.boxes).Perm ([(b8,B.c [vint 0,vint 0,vstr qH]),(b7,B.c [mp D]),(b6,B.c [vstr key]),(b5,B.c (jP h l)),(b4,B.c [ptr H]),(D,mI g cl),(H,B.c (qT c++[qZ rows,vint t,mp T,mp Q])),(T,mD G cd),(Q,mB Gb cb)]++([(b,B.c [vstr qH,vstr qH,nilS,vint 0])]++dl Ln f)) by rw [d];exact(ux (l₁:=[(b8,B.c [vint 0,vint 0,vstr qH]),(b7,B.c [mp D]),(b6,B.c [vstr key]),(b5,B.c (jP h l)),(b4,B.c [ptr H]),(D,mI g cl),(H,B.c (qT c++[qZ rows,vint t,mp T,mp Q])),(T,mD G cd),(Q,mB Gb cb)])).symm),zp _,w,p,u,A,C,J,f0,f1,f2,f3,f4,f5,f6,f7,f8,f9,f12,[(b,.c [vstr qH,vstr qH,nilS,vint 0])],rfl,.inr ⟨rfl,b,_,_,_,_,rfl,rfl,O,fun h=>by rw [show L 11=true from h] at P;cases P⟩⟩
   | 11,a =>
    cases a;have aR:=dt U 10;have d8:=f8 (dt U 8);rcases I with⟨P,_⟩ | ⟨_,b,u0,u1,u2,u3,rfl,ed,O,_⟩
    ·rw [aR] at P;cases P
    have az:=O;simp only [Nb,List.cons_append,List.nil_append] at az;refine qa ?_;exact lP ⟨by exact qA,p,u,A,C,J,f0,f1,f2,f3,f4,f5,f6,f7,f8,f9,f12,[_],rfl,.inr ⟨aR,b,_,_,_,_,rfl,ed,O,fun _=>rfl⟩⟩
  ·intro L S o ⟨w,p,u,A,C,J,f0,f1,f2,f3,f4,f5,f6,f7,f8,f9,f12,X,d,I⟩;rcases I with⟨P,_⟩ | ⟨_,b,u0,u1,u2,u3,rfl,ed,O,hu⟩
   ·rw [o 10 (by simp)] at P;cases P
   replace hu:=hu (o 11 (by simp));replace f0:=f0 (o 0 (by simp));replace f1:=f1 (o 1 (by simp));replace f2:=f2 (o 2 (by simp));replace f3:=f3 (o 3 (by simp));replace f4:=f4 (o 4 (by simp));replace f5:=f5 (o 5 (by simp));replace f6:=f6 (o 6 (by simp));replace f7:=f7 (o 7 (by simp));replace f8:=f8 (o 8 (by simp));replace f9:=f9 (o 9 (by simp));replace f12:=f12 (o 12 (by simp));simp only [qKi,and_true] at hu;obtain⟨rfl,rfl,rfl,rfl⟩:=hu;simp only [List.cons_append,List.nil_append] at d;simp only [Nb,List.cons_append,List.nil_append] at O;have M:=aI M O;obtain⟨aE,rfl⟩:∃ x,x=b:=⟨b,rfl⟩;rcases a4 with⟨rfl,aj⟩ | ⟨rfl,aj⟩
   ·refine qa ?_;have ea:VE c rows t h l key=val0:=by unfold VE;rw [aj]
    rw [qc3 k5,ea];refine⟨_,(D,mI g cl)::(H,.c (qT c++[qZ rows,vint t,mp T,mp Q]))::(T,mD G cd)::(Q,mB Gb cb)::dl Ln f,[],Le.refl _,(((((((((zc _).cons _).cons_cons _).cons_cons _).cons_cons _).cons_cons _).cons _).cons _).cons _).cons _ |>.cons _,zn _,rfl,WB.congr ⟨G,cd,Gb,cb,g,cl,Ln,f,hM,hB,hs,aO,rfl⟩ fun i=>⟨.inl,fun K=>K.elim id fun K=>?_⟩,rfl⟩;rw [qn3 k5] at K;obtain⟨bh,h1,_⟩:=K;rw [aj] at h1;cases h1
   ·have aP:=qSa aA ab.fit h key t ab.win;have am:=fun r (hr:r ∈ zW c rows h l key t)=>JX ab.win hr;have aQ:(zW c rows h l key t).length<=1000:=km JY ab.fit.few;have aT:∀ j,VF c rows t h l key j↔∃ r ∈ zW c rows h l key t,r.id=j:=fun j=>by
     unfold VF;rw [aj];simp
    have aU:VE c rows t h l key=qh1 h ((zW c rows h l key t).map fun r=>jT Y r (l.getD 0 exp0)) ((zW c rows h l key t).map (·.event)) t:=by unfold VE;rw [aj]
    rw [qc3 k5,aU];have aL:∀ j,idH fi h (l.map fun x=>jt c rows t fv x key) (l.map fun x=>W8 c rows t fv fi x key) (VF c rows t h l key) key j↔∃ r ∈ zW c rows h l key t,r.id=j:=fun j=>(qn3 k5 j).trans (aT j);generalize zW c rows h l key t=n at aP am aQ aL ⊢;simp only [↓rA,rU,p,u,A,f12,d,M,simprocAttr];refine qt _ aP.v ?_;simp only [↓rA,rU,simprocAttr];refine zI Ty.mixed (by kernel_rfl) n.length (fun i S=>∃ g' aa,ug g' aa (fun j=>e j∨∃ r ∈ n.take i,r.id=j)/\S.boxes=(b8,.c [vint 0,vint 0,vstr qH])::(b7,.c [mp D])::(b6,.c [vstr key])::(b5,.c (jP h l))::(b4,.c [ptr H])::(D,mI g' aa)::(H,.c (qT c++[qZ rows,vint t,mp T,mp Q]))::(T,mD G cd)::(Q,mB Gb cb)::(aE,.c (cTab Y))::dl Ln f/\qNt Y (l.getD 0 exp0) n i S /\
      S.σ 4=ptr b4/\S.σ 5=ptr b5/\S.σ 6=ptr b6/\S.σ 7=ptr b7/\S.σ 8=ptr b8/\S.σ 10=ptr aE/\S.σ 12=qZ n/\S.σ 86=qZ n/\S.σ 87=vint n.length/\S.σ 88=vint i) ⟨_,_,_,_,zc _,zc _,zp _,zp _,?_⟩
      (fun i S Z ⟨g',aa,ah,d,aq,g4,g5,g6,g7,g8,aw,aF,aG,ax,ag⟩=>?_) (fun S ⟨g',aa,ah,d,aq,g4,g5,g6,g7,g8,aw,aF,aG,ax,ag⟩=>?_)
    ·simp only [rU,w,p,u,A,C,J,ed,d,simprocAttr];exact⟨g,cl,hs.congr fun j=>⟨.inl,fun K=>K.elim id fun⟨r,hr,_⟩=>by cases hr⟩,rfl,.inl ⟨rfl,by rfl,by rfl⟩⟩
    ·have au:=qj Z;have ak:=am _ (zs Z);obtain⟨a0,a1,rfl⟩:∃ a0 a1,l=[a0,a1]:=by
      match l,ak.2.2.2 with
      | [a0,a1],_=>simp
     have a3:Y ∈ c.tables:=qOc aj;have ar:=qb5 aA Y n[i] (ab.fit.flds Y a3) (ab.fit.row _ ak.1) a0 (ab.fit.args a0 (by simp));rw [vE,qY] at ar;have et:n.take (i+1)=n.take i++[n[i]]:=zt Z;have an:∀ j,((e j∨∃ r ∈ n.take i,r.id=j)∨j=n[i].id)↔(e j∨∃ r ∈ n.take (i+1),r.id=j):=fun j=>by
      rw [et,or_assoc];refine or_congr qRo ?_;constructor
      ·rintro(⟨r,hr,h1⟩ | h1)
       ·exact⟨r,z6.2 (.inl hr),h1⟩
       ·exact⟨_,z6.2 (.inr (kl.2 rfl)),h1.symm⟩
      ·rintro⟨r,hr,h1⟩;rcases z6.1 hr with hr | hr
       ·exact .inl ⟨r,hr,h1⟩
       ·rw [kl.1 hr] at h1;exact .inr h1.symm
     have ae:=zb (cV:=vTt) jn n[i].id g';have aD:=xI (cV:=vTt) jn n[i].id () g';rw [ZM] at aD;simp only [qPl] at aq ⊢;have al:=qd8 Y a0 n i Z;generalize bg:jT Y n[i] a0=va at ar al;rcases aq with⟨hz,w,af⟩ | ⟨y,w,af⟩
     ·simp only [↓rA,rU,w,aG,ax,ag,d,zq,Z,simprocAttr];refine qX fun aS ay=>?_;have M:=aI M ay;simp only [↓rA,rU,g5,aw,af,d,M,qY,simprocAttr];refine qt _ ar.v ?_;refine qa ?_;refine jS.l ?_;simp only [↓rA,rU,g7,M,simprocAttr];refine fun y'=>?_;cases hq:zy g' n[i].id with
      | some q =>
       rw [hq,qA4] at ae;simp only [↓rA,rU,ag,M,ae,aD,au,simprocAttr];refine⟨_,_,_,_,List.Sublist.cons _ (zc _),zc _,zp _,zp _,g',aa,(ah.old hq).congr an,rfl,.inr ⟨y',by exact qA,?_⟩,?_⟩
       ·rw [al,show Qj Y a0 n i=[] by rw [hz];rfl];rfl
       ·exact qA
      | none =>
       rw [hq,qI9] at ae;simp only [↓rA,rU,ag,M,ae,au,simprocAttr];refine⟨_,_,_,_,List.Sublist.cons _ (zc _),zc _,zp _,zp _,g'++[(aa,n[i].id,())],aa+1,(ah.new hq).congr an,?_,.inr ⟨y',by exact qA,?_⟩,?_⟩
       ·simp only [mI,qP,k8,z7,Jx];rfl
       ·rw [al,show Qj Y a0 n i=[] by rw [hz];rfl];rfl
       ·exact qA
     ·have bf:(Qj Y a0 n i).length<=1000:=by unfold Qj;rw [zz,zz,kB];omega
      refine qn ?_;refine qX fun aS ay=>?_;have M:=aI M ay;simp only [↓rA,rU,g5,aw,af,d,M,qY,simprocAttr];refine qt _ ar.v ?_;simp only [↓rA,rU,w,g7,M,qY,simprocAttr];refine⟨by omega,fun y'=>?_⟩;cases hq:zy g' n[i].id with
      | some q =>
       rw [hq,qA4] at ae;simp only [↓rA,rU,ag,M,ae,aD,au,simprocAttr];refine⟨_,_,_,_,List.Sublist.cons _ (zc _),zc _,zp _,zp _,g',aa,(ah.old hq).congr an,rfl,.inr ⟨y',by rfl,?_⟩,?_⟩
       ·rw [al];rfl
       ·exact qA
      | none =>
       rw [hq,qI9] at ae;simp only [↓rA,rU,ag,M,ae,au,simprocAttr];refine⟨_,_,_,_,List.Sublist.cons _ (zc _),zc _,zp _,zp _,g'++[(aa,n[i].id,())],aa+1,(ah.new hq).congr an,?_,.inr ⟨y',by rfl,?_⟩,?_⟩
       ·simp only [mI,qP,k8,z7,Jx];rfl
       ·rw [al];rfl
       ·exact qA
    ·rw [qNc] at ah;have a8:∀ v ∈ n.map (fun r=>jT Y r (l.getD 0 exp0)),x5 v.n:=fun v hv=>by
      obtain⟨r,hr,rfl⟩:=x9.1 hv;have ak:=am r hr
      match l,ak.2.2.2,ab with
      | [a0,a1],_,ab=>exact qb4 Y r (ab.fit.row r ak.1) a0 (ab.fit.args a0 (by simp))
     have aH:=qz7 h l (n.map fun r=>jT Y r (l.getD 0 exp0)) n t (zz _) aQ a8 a5 (fun r hr=>⟨(am r hr).2.1,(am r hr).2.2.1⟩) ab.par;generalize qh1 h (n.map fun r=>jT Y r (l.getD 0 exp0)) (n.map (·.event)) t=bc at aH ⊢;have aM:Le (S.σ 13) (xT (n.map fun r=>jT Y r (l.getD 0 exp0))):=by
      rcases aq with⟨hz,_,af⟩ | ⟨y,_,af⟩
      ·rw [af,show n=[] from qMy.1 hz];exact Le.nil 3
      ·rw [af,Qj,qNc];exact Le.list _ _ _
     generalize a7:S.σ 13=v13 at aM;have aY:WB c rows t fv fi H T Q D β (fun i=>e i∨idH fi h (l.map fun x=>jt c rows t fv x key) (l.map fun x=>W8 c rows t fv fi x key) (VF c rows t h l key) key i) ((D,mI g' aa)::(H,.c (qT c++[qZ rows,vint t,mp T,mp Q]))::(T,mD G cd)::(Q,mB Gb cb)::dl Ln f):=WB.congr ⟨G,cd,Gb,cb,g',aa,Ln,f,hM,hB,ah,aO,rfl⟩ fun j=>or_congr qRo (aL j).symm;simp only [↓rA,rU,g4,g5,aF,a7,ax,ag,d,M,zq,WR,simprocAttr];refine qA0 (.c1 (.cons aM (.c1 (.c1 .nil)))) _ aH ?_;simp only [↓rA,rU,g8,d,simprocAttr];exact⟨_,(D,mI g' aa)::(H,.c (qT c++[qZ rows,vint t,mp T,mp Q]))::(T,mD G cd)::(Q,mB Gb cb)::dl Ln f,[],Le.refl _,(((((((((zc _).cons _).cons_cons _).cons_cons _).cons_cons _).cons_cons _).cons _).cons _).cons _).cons _ |>.cons _,zn _,rfl,aY,rfl⟩
 ·rw [if_neg k1,if_neg k3,if_neg k5,if_neg k4] at ad;have ba:zg prog 95=true:=by kernel_rfl
  have hO:Opd 95 #[.pointer (some ⟨b4,0,none⟩),.pointer (some ⟨b5,0,none⟩),.pointer (some ⟨b6,0,none⟩),.pointer (some ⟨b7,0,none⟩)] l.length (fun k=>jt c rows t fv (l.getD k exp0) key) (fun es bs=>∃ W,bs=(b7,.c [mp D])::(b6,.c [vstr key])::(b5,.c (jP h l))::(b4,.c [ptr H])::W/\WB c rows t fv fi H T Q D β (qDh c rows t fv fi l key e es) W):={
   call:=ba
   inw:=fun i=>by
    rw [vk];rcases qNb i l.length with Z | Z
    ·rw [yb Z];exact qlp _ (fun m hm k=>hS.inw m (ad m (uS.2 ⟨_,zs Z,hm⟩)).1 k) (ao _ (zs Z)) (aC k5 _ (zs Z)) key
    ·rw [qMa Z];show x5 (jt c rows t fv exp0 key).n;unfold exp0;rw [qc1];exact yZ
   ok:=fun i Z es bs ⟨W,aV,z⟩=>by
    subst aV;have hy:=zs Z;have hc:=ih l[i] hy (ao _ hy) (aC k5 _ hy) (fun m hm=>ad m (uS.2 ⟨_,hy,hm⟩)) key H T Q D β _ W hd av z;have:=qyh (h:=h) (l:=l) i Z b4 b5 b6 b7 (by simp only [M,ne_eq,not_false_eq_true,and_self]) W hc;rw [vk,yb Z];refine Ok.mono this fun v bs rs ⟨h1,⟨W',ac,h2⟩,h3⟩=>⟨h1,⟨W',h2,ac.congr fun j=>?_⟩,h3⟩;unfold qDh;rw [or_assoc];refine or_congr qRo ⟨fun K=>?_,fun⟨k,hk,K⟩=>?_⟩
    ·rcases K with⟨k,hk,K⟩ | K
     ·exact⟨k,z6.2 (.inl hk),K⟩
     ·exact⟨i,z6.2 (.inr (kl.2 rfl)),by rw [vk,yb Z];exact K⟩
    ·rcases z6.1 hk with hk | hk
     ·exact .inl ⟨k,hk,K⟩
     ·rw [kl.1 hk,vk,yb Z] at K;exact .inr K }
  have hs:=Yo aA h l _ _ _ _ hO ((b7,.c [mp D])::(b6,.c [vstr key])::(b5,.c (jP h l))::(b4,.c [ptr H])::bs) ⟨bs,rfl,z.congr fun i=>⟨.inl,fun K=>K.elim id fun⟨k,hk,_⟩=>by cases hk⟩⟩;rw [U4 l fun x=>jt c rows t fv x key] at hs;rw [qoc k1 k3 k4 k5];generalize yL h (l.map fun x=>jt c rows t fv x key)=bc at hs ⊢;refine qa ?_;refine qr _ [] (qKy (wl _).symm) (Ok.frame [(b8,.c [vint 0,vint 0,vstr qH])] hs) ?_;rintro v _ rs ⟨b1,rfl,ap,rfl,⟨W',rfl,ac⟩,rfl⟩;refine qa ?_;exact⟨_,W',[],Le.refl _,(((((zc _).cons _).cons _).cons _).cons _).cons _,zn _,rfl,ac.congr fun i=>qxt k1 k3 k4 k5 i,rfl⟩
theorem jN (n:Int):zk prog 249 [vint n] (qq (yP n)):=by
 refine oE func249 fun F d a=>?_;refine qa ?_;unfold yP;by_cases h:-1152921504606846976<=n
 ·exact qe (h:=fb (by simp []))
 ·exact qe (h:=fb (by simp []))
theorem qge (n:Int):zk prog 169 [vint n] (vO (QV n)):=by
 have o:IntKind.i64.wrap (-1152921504606)=-1152921504606:=by decide
 refine oE func169 fun F k j=>?_;refine qa ?_;by_cases h:n < -1152921504606
 ·have e:QV n=none:=by unfold QV;rw [if_pos (.inl h)]
  rw [e];exact qe
 by_cases a:1152921504606 < n
 ·have e:QV n=none:=by unfold QV;rw [if_pos (.inr a)]
  rw [e];exact qe
 have e:QV n=some (n * 1000000):=by unfold QV;rw [if_neg fun d=>d.elim h a]
 have w:IntKind.i64.wrap (n * 1000000)=n * 1000000:=qv (by omega) (by omega);rw [e];exact qe
theorem qop (a b:Int):zk prog 170 [vint a,vint b] (vO (wG a b)):=by
 have k:=jN a;have n:=jN b;have o:=jN (a+b);refine oE func170 fun F q p=>?_;refine qi _ k ?_;cases d:yP a
 ·have e:wG a b=none:=by unfold wG;rw [d];rfl
  rw [e];exact qe
 refine qi _ n ?_;cases h:yP b
 ·have e:wG a b=none:=by unfold wG;rw [d,h];rfl
  rw [e];exact qe
 have w:IntKind.i64.wrap (a+b)=a+b:=by
  unfold yP at d h;simp only [k7,decide_eq_true_eq] at d h;exact qv (by omega) (by omega)
 refine qi _ o ?_;cases j:yP (a+b)
 ·have e:wG a b=none:=by unfold wG;rw [d,h,j];rfl
  rw [e];exact qe
 have e:wG a b=some (a+b):=by unfold wG;rw [d,h,j];rfl
 rw [e];exact qe
theorem qBr (a b:Int):zk prog 171 [vint a,vint b] (vO (yQ a b)):=by
 have k:=jN a;have n:=jN b;have j:=qop a (-b);refine oE func171 fun F q p=>?_;refine qi _ k ?_;cases h:yP a
 ·have e:yQ a b=none:=by unfold yQ;rw [h];rfl
  rw [e];exact qe
 refine qi _ n ?_;cases d:yP b
 ·have e:yQ a b=none:=by unfold yQ;rw [h,d];rfl
  rw [e];exact qe
 have e:yQ a b=wG a (-b):=by unfold yQ;rw [h,d];rfl
 have w:IntKind.i64.wrap (0 - b)=-b:=by
  unfold yP at d;simp only [k7,decide_eq_true_eq] at d;rw [qRy];exact qv (by omega) (by omega)
 rw [e];generalize wG a (-b)=o at j;refine qi _ j ?_;exact qe
theorem qcj (n:Int) (h:x5 n):zk prog 305 [vint n] (.tup [vu n.natAbs,qq (decide (n < 0))]):=by
 unfold x5 at h;refine oE func305 fun F d a=>?_;by_cases c:n < 0
 ·have e:IntKind.u64.wrap (IntKind.i64.wrap (0 - n))=(n.natAbs:Int):=by rw [IntKind.wrap_i64,IntKind.wrap_u64];omega
  rw [decide_eq_true c];exact qe
 ·have e:IntKind.u64.wrap n=(n.natAbs:Int):=by rw [IntKind.wrap_u64];omega
  rw [decide_eq_false c];exact qe
theorem qJ5 (q:Nat) (h:q < 18446744073709551616):IntKind.u64.wrap ((BitVec.ofInt IntKind.u64.bits (q:Int) &&& BitVec.ofInt IntKind.u64.bits 1).toNat:Int)=((q % 2:Nat):Int):=by
 have e:(BitVec.ofInt IntKind.u64.bits (q:Int) &&& BitVec.ofInt IntKind.u64.bits 1).toNat=q % 2:=by
  rw [BitVec.toNat_and,qOn,qOn];show ((q:Int) % 18446744073709551616).toNat &&& ((1:Int) % 18446744073709551616).toNat=q % 2;rw [qQs (by omega) (by omega)];exact Nat.and_one_is_mod q
 rw [e,IntKind.wrap_u64];omega
theorem qnl (a b d:Int) (x:x5 a) (hb:x5 b) (hd:x5 d) (K:d.natAbs<=1152921504606846976):zk prog 250 [vint a,vint b,vint d] (vO (qey a b d)):=by
 have e:=qcj a x;have h:=qcj b hb;have j:=qcj d hd;have u:a.natAbs<=9223372036854775808:=by unfold x5 at x;omega
 have w:b.natAbs<=9223372036854775808:=by unfold x5 at hb;omega
 unfold qey;simp only [];generalize decide (a < 0)=y at e ⊢;generalize decide (b < 0)=z at h ⊢;generalize decide (d < 0)=C at j ⊢;generalize a.natAbs=A at e u ⊢;generalize b.natAbs=B at h w ⊢;generalize d.natAbs=D at j K ⊢;have n:=qfo (A:Int) (B:Int) (by omega) (by omega) (by omega) (by omega);rw [<-qO4] at n;have I:A * B < 340282366920938463463374607431768211456:=qKu (qMq u w) (by decide);generalize A * B=p at n I ⊢;refine oE func250 fun F w0 L=>?_;refine qi _ e ?_;refine qi _ h ?_;refine qi _ j ?_;refine qi _ n ?_;by_cases c:D<=p / 18446744073709551616
 ·have G:((D:Int)<=(p:Int) / 18446744073709551616)=True:=eq_true (by omega);rw [if_pos c];exact qe
 have G:¬ (D:Int)<=(p:Int) / 18446744073709551616:=by omega
 rw [if_neg c];have o:0 < D:=by omega
 have k:=qgy ((p:Int) / 18446744073709551616) ((p:Int) % 18446744073709551616) D (by omega) (by omega) (by omega) (by omega) (by omega);rw [show (p:Int) / 18446744073709551616 * 18446744073709551616+(p:Int) % 18446744073709551616=(p:Int) by omega] at k;have Y:=qPf p o;have J:p / D < 18446744073709551616:=(qMt o).2 (by omega);rw [show (p:Int) / (D:Int)=((p / D:Nat):Int) from rfl,show (p:Int) % (D:Int)=((p % D:Nat):Int) from rfl] at k;unfold qnm;generalize p / D=q at *;generalize p % D=r at *;have Z:IntKind.u64.wrap (2 * (r:Int))=((2 * r:Nat):Int):=by rw [wU (by omega) (by omega)];omega
 have k3:=qJ5 q J;have k4:IntKind.u64.wrap ((q:Int)+1)=(((q+1) % 18446744073709551616:Nat):Int):=by rw [IntKind.wrap_u64];omega
 refine qi _ k ?_;simp only [↓qJ,↓zx,↓QH,↓zA,↓XQ,zw,qu,kM,vA,wz,wT,QJ,kO,zP,Wh,not_false_eq_true,ne_eq,List.getElem?_cons_zero,List.getElem?_cons_succ,wl,List.toList_toArray,Nat.reduceEqDiff,results250];rw [zu];refine xe (fun S=>S.rows=[]/\S.boxes=[]/\S.σ 9=qq y/\S.σ 11=qq z/\S.σ 13=qq C/\S.σ 16=vu ((if D < 2 * r∨(2 * r=D/\q % 2=1) then (q+1) % 18446744073709551616 else q:Nat):Int)) ?_ ?_
 ·by_cases c1:(D:Int) < ((2 * r:Nat):Int)
  ·have M:=eq_true c1;rw [if_pos (.inl (by omega))];exact kK
  ·by_cases H:((2 * r:Nat):Int)=(D:Int)
   ·have N:=eq_true H;by_cases O:((q % 2:Nat):Int)=1
    ·rw [if_pos (.inr ⟨by omega,by omega⟩)];exact qnh
    ·rw [if_neg (by omega)];exact qnh
   ·rw [if_neg (by omega)];exact kK
 ·rintro S ⟨X,W,U,P,Q,T⟩;generalize (if D < 2 * r∨(2 * r=D/\q % 2=1) then (q+1) % 18446744073709551616 else q:Nat)=R at *;by_cases c1:(1152921504606846976:Int) < (R:Int)
  ·rw [if_pos (by omega)];exact qe
  ·rw [if_neg (by omega)];have k5:IntKind.i64.wrap (R:Int)=(R:Int):=qv (by omega) (by omega);have k6:IntKind.i64.wrap (0 - (R:Int))=-(R:Int):=by rw [qv (by omega) (by omega)];omega
   cases y <;> cases z <;> cases C
   all_goals
    exact qe
theorem qCl (a b:Int):zk prog 172 [vint a,vint b] (vO (XE a b)):=by
 have e:=jN a;have h:=jN b;refine oE func172 fun F p n=>?_;refine qi _ e ?_;unfold XE;cases j:yP a
 ·exact qe
 refine qi _ h ?_;cases k:yP b
 ·exact qe
 have d:=qnl a b 1000000 (KA j) (KA k) (by unfold x5;decide) (by decide);simp only [Bool.and_self,if_true];generalize qey a b 1000000=o at d ⊢;refine qi _ d ?_;exact qe
theorem qEx (a b:Int):zk prog 173 [vint a,vint b] (vO (XF a b)):=by
 have h:=jN a;have j:=jN b;refine oE func173 fun F q n=>?_;refine qi _ h ?_;unfold XF;cases k:yP a
 ·exact qe
 refine qi _ j ?_;cases d:yP b
 ·exact qe
 by_cases c:b=0
 ·have p:=eq_true c;rw [if_neg (by simp [c])];exact qe
 have e:=qnl a 1000000 b (KA k) (by unfold x5;decide) (KA d) (by
  unfold yP at d;simp only [k7,decide_eq_true_eq] at d;omega)
 rw [if_pos (by simp [c])];generalize qey a 1000000 b=o at e ⊢;refine qi _ e ?_;exact qe
def qN0 (a b:Val) (op:Str) (d e k:Nat) (L:Nat->Bool) (S:St):Prop :=
 S.rows=[]/\S.σ 0=vstr op/\S.σ 4=ptr d/\S.σ 5=ptr e/\S.σ 6=ptr k/\(L 0=true->S.σ 23=pt d 1)/\(L 1=true->S.σ 24=vint a.n)/\(L 2=true->S.σ 25=.agg (cW a.n))/\(L 3=true->S.σ 26=pt e 1)/\(L 4=true->S.σ 27=vint b.n)/\(L 5=true->S.σ 28=.agg (cW b.n)) /\
 ∃ X Y:Bx,S.boxes=[(k,.c [vint 0,vint 0,vstr qH]),(e,.c (qS b)),(d,.c (qS a))]++(X++Y) /\
  ((L 6=false/\L 8=false/\X=[])∨(L 6=true/\∃ n h j,X=[(n,.c [h,j])]/\S.σ 7=ptr n/\Nb n ([(k,.c [vint 0,vint 0,vstr qH]),(e,.c (qS b)),(d,.c (qS a))]++Y)/\(L 8=true->[h,j]=cW a.n))) /\
  ((L 7=false/\L 9=false/\Y=[])∨(L 7=true/\∃ o h j,Y=[(o,.c [h,j])]/\S.σ 8=ptr o/\Nb o [(k,.c [vint 0,vint 0,vstr qH]),(e,.c (qS b)),(d,.c (qS a))]/\(L 9=true->[h,j]=cW b.n)))
theorem qho:CalcOk:=fun op a b ha hb=>by
 have ak:=Xp a.n ha;have al:=Xp b.n hb;have af:=KC a ha;have ah:=ha;have ai:=hb;unfold x5 at ah ai;have i1:x5 1:=by unfold x5;decide
 refine Ok.of_exM [(2,3)] Ty.mixed func107 rfl (by simp) (by kernel_rfl) fun F w0 I0=>?_;refine qb fun Q h4=>?_;refine qb fun R h5=>?_;refine qb fun Z h6=>?_;have z:=aI h4 (aI h5 h6);by_cases k:a.kind=2/\b.kind=2
 ·obtain⟨O,k2⟩:=k;have K1:=eq_true O;have K2:=eq_true k2;have e:Qa op a b=(if op=qCj then XD 2 (a.n+b.n) 1 else if op=qwl then XD 2 (a.n - b.n) 1 else if op=qCi then XD 2 (a.n * b.n) 1 else XD 3 (fineV a) b.n):=by unfold Qa;rw [if_pos ⟨O,k2⟩]
  rw [e];simp only [↓rA,rU,z,K1,K2,simprocAttr];refine yp Ty.mixed (by rfl) (by rfl) (qN0 a b op Q R Z) ?_ ?_ ?_
  ·exact⟨by rfl,by rfl,by rfl,by rfl,by rfl,nofun,nofun,nofun,nofun,nofun,nofun,[],[],by rfl,.inl ⟨rfl,rfl,rfl⟩,.inl ⟨rfl,rfl,rfl⟩⟩
  ·intro L S i C q hL U ⟨H,u,D,G,J,f0,f1,f2,f3,f4,f5,X,Y,d,A,I⟩
   match i,q with
   | 0,q =>
    cases q;refine qa ?_;exact lP ⟨H,u,D,G,J,fun _=>rfl,f1,f2,f3,f4,f5,X,Y,d,A,I⟩
   | 1,q =>
    cases q;have d0:=f0 (dt U 0);refine qa ?_;exact lP ⟨H,u,D,G,J,f0,fun _=>rfl,f2,f3,f4,f5,X,Y,d,A,I⟩
   | 2,q =>
    cases q;have d1:=f1 (dt U 1);refine qi _ ak ?_;refine qa ?_;exact lP ⟨by rfl,u,D,G,J,f0,f1,fun _=>rfl,f3,f4,f5,X,Y,by exact qA,A,I⟩
   | 3,q =>
    cases q;refine qa ?_;exact lP ⟨H,u,D,G,J,f0,f1,f2,fun _=>rfl,f4,f5,X,Y,d,A,I⟩
   | 4,q =>
    cases q;have d3:=f3 (dt U 3);refine qa ?_;exact lP ⟨H,u,D,G,J,f0,f1,f2,f3,fun _=>rfl,f5,X,Y,d,A,I⟩
   | 5,q =>
    cases q;have d4:=f4 (dt U 4);refine qi _ al ?_;refine qa ?_;exact lP ⟨by rfl,u,D,G,J,f0,f1,f2,f3,f4,fun _=>rfl,X,Y,by exact qA,A,I⟩
   | 6,q =>
    cases q;rcases A with⟨_,j,rfl⟩ | ⟨j,_⟩
    case inr=>rw [hL] at j;cases j
    simp only [↓rA,rU,H,simprocAttr];refine fun N h7=>?_;replace h7:=zS h7;rw [d,qKv] at h7;refine⟨_,_,_,_,zc _,zc _,(show ((N,B.c [vint 0,.lit (.int .u64 0)])::S.boxes).Perm ([(Z,.c [vint 0,vint 0,vstr qH]),(R,.c (qS b)),(Q,.c (qS a))]++([(N,B.c [vint 0,.lit (.int .u64 0)])]++Y)) by rw [d];exact(ux (l₁:=[_,_,_])).symm),zp _,H,u,D,G,J,f0,f1,f2,f3,f4,f5,[_],Y,rfl,.inr ⟨rfl,N,_,_,rfl,rfl,h7,fun h=>by rw [show L 8=true from h] at j;cases j⟩,I⟩
   | 7,q =>
    cases q;rcases I with⟨_,j,rfl⟩ | ⟨j,_⟩
    case inr=>rw [hL] at j;cases j
    simp only [↓rA,rU,H,simprocAttr];refine fun b8 h8=>?_;replace h8:=zS h8;rw [d,wl] at h8;refine⟨_,_,_,_,zc _,zc _,(show ((b8,B.c [vint 0,.lit (.int .u64 0)])::S.boxes).Perm ([(Z,.c [vint 0,vint 0,vstr qH]),(R,.c (qS b)),(Q,.c (qS a))]++(X++[(b8,B.c [vint 0,.lit (.int .u64 0)])])) by rw [d,wl,<-jm];exact x8 (l₁:=[_])),zp _,H,u,D,G,J,f0,f1,f2,f3,f4,f5,X,[_],rfl,?_,.inr ⟨rfl,b8,_,_,rfl,rfl,qdw h8,fun h=>by rw [show L 9=true from h] at j;cases j⟩⟩;rcases A with A | ⟨q1,N,u0,u1,rfl,T,W,hu⟩
    ·exact .inl A
    ·refine .inr ⟨q1,N,u0,u1,rfl,T,?_,hu⟩;simp only [Nb,List.cons_append,List.nil_append,wl] at W h8 ⊢;simp_all
   | 8,q =>
    cases q;have l6:=dt U 6;have d2:=f2 (dt U 2);rcases A with⟨j,_⟩ | ⟨_,N,u0,u1,rfl,T,W,_⟩
    ·rw [l6] at j;cases j
    have ag:=W;simp only [Nb,List.cons_append,List.nil_append] at ag;refine qa ?_;exact lP ⟨H,u,D,G,J,f0,f1,f2,f3,f4,f5,[_],Y,rfl,.inr ⟨l6,N,_,_,rfl,T,W,fun _=>rfl⟩,I⟩
   | 9,q =>
    cases q;have l7:=dt U 7;have d5:=f5 (dt U 5);rcases I with⟨j,_⟩ | ⟨_,b8,u0,u1,rfl,e8,W,_⟩
    ·rw [l7] at j;cases j
    have ag:=W;simp only [Nb] at ag;rcases A with⟨q1,q2,rfl⟩ | ⟨q1,N,w0,w1,rfl,T,ac,hu⟩
    ·refine qa ?_;exact lP ⟨H,u,D,G,J,f0,f1,f2,f3,f4,f5,[],[_],rfl,.inl ⟨q1,q2,rfl⟩,.inr ⟨l7,b8,_,_,rfl,e8,W,fun _=>rfl⟩⟩
    ·have ad:=ac;simp only [Nb,List.cons_append,List.nil_append] at ad;refine qa ?_;exact lP ⟨H,u,D,G,J,f0,f1,f2,f3,f4,f5,[_],[_],rfl,.inr ⟨q1,N,_,_,rfl,T,ac,hu⟩,.inr ⟨l7,b8,_,_,rfl,e8,W,fun _=>rfl⟩⟩
  intro L S hL ⟨H,u,D,G,J,f0,f1,f2,f3,f4,f5,X,Y,d,A,I⟩;rcases A with⟨j,_⟩ | ⟨_,N,w0,w1,rfl,T,ac,am⟩
  ·rw [hL 6 (by simp)] at j;cases j
  rcases I with⟨j,_⟩ | ⟨_,b8,u0,u1,rfl,e8,ad,an⟩
  ·rw [hL 7 (by simp)] at j;cases j
  have q7:=am (hL 8 (by simp));have q8:=an (hL 9 (by simp));simp only [qKi,and_true] at q7 q8;obtain⟨rfl,rfl⟩:=q7;obtain⟨rfl,rfl⟩:=q8;simp only [Nb,List.cons_append,List.nil_append] at ac ad;have z:=aI z (aI ac ad);by_cases C:op=(⟨#[43]⟩:Str)
  ·have O1:=eq_true C;rw [if_pos C];simp only [↓rA,rU,z,u,d,T,e8,O1,simprocAttr];refine qo _ (XX _ _) ?_;rw [ui (show ki (a.n+b.n) by unfold ki;omega)];refine qa ?_;refine qo _ (wF 2 _ 1 (by omega) i1) ?_;exact qe
  rw [if_neg C];by_cases M:op=(⟨#[45]⟩:Str)
  ·have O2:=eq_true M;rw [if_pos M];simp only [↓rA,rU,z,u,d,T,e8,C,O2,simprocAttr];refine qo _ (qm6 _ _) ?_;rw [ui (show ki (a.n - b.n) by unfold ki;omega)];refine qa ?_;refine qo _ (wF 2 _ 1 (by omega) i1) ?_;exact qe
  rw [if_neg M];by_cases P:op=(⟨#[42]⟩:Str)
  ·have O3:=eq_true P;have hp:(a.n * b.n).natAbs<=85070591730234615865843651857942052864:=by
    rw [Int.natAbs_mul];exact km (qMq (show a.n.natAbs<=9223372036854775808 by omega) (show b.n.natAbs<=9223372036854775808 by omega)) (by decide)
   rw [if_pos P];simp only [↓rA,rU,z,u,D,G,d,C,M,O3,simprocAttr];refine qo _ (qm9 _ _ ha hb) ?_;rw [ui (show ki (a.n * b.n) by unfold ki;omega)];refine qa ?_;refine qo _ (wF 2 _ 1 (by omega) i1) ?_;exact qe
  rw [if_neg P];simp only [↓rA,rU,z,u,D,d,C,M,P,simprocAttr];refine qt _ af.v ?_;refine qa ?_;refine qt _ (zk.v (wF 3 (fineV a) b.n (by unfold fineV;omega) hb)) ?_;exact qe
 ·have e:∀ x y,Jv a=some x->Jv b=some y->Qa op a b=Zm 3 (if op=qCj then wG x y else if op=qwl then yQ x y else if op=qCi then XE x y else if op=qLf then XF x y else none):=fun x y hx hy=>by unfold Qa;simp_all
  have e1:Jv a=none->Qa op a b=val0:=fun hx=>by unfold Qa;simp_all
  have e2:Jv b=none->Qa op a b=val0:=fun hx=>by
   unfold Qa;simp_all
  have af:=qge a.n;have aj:=qge b.n;simp only [↓qJ,z7,Jx,List.toList_toArray,results107];rw [zu];refine xe (fun S=>S.boxes=[(Z,.c [vint 0,vint 0,vstr qH]),(R,.c (qS b)),(Q,.c (qS a))]/\S.σ 0=vstr op/\S.σ 4=ptr Q/\S.σ 5=ptr R/\S.σ 6=ptr Z) ?_ ?_
  ·by_cases O:a.kind=2
   ·have k2:¬ b.kind=2:=fun h=>k ⟨O,h⟩;have K1:=eq_true O;exact kK
   ·exact kK
  rintro S ⟨pb,p0,p4,p5,p6⟩;have w1:IntKind.i64.wrap 1=1:=by decide
  have w2:IntKind.i64.wrap 2=2:=by decide
  refine qa ?_;refine fun y=>?_;refine zI Ty.mixed (by rfl) 2 (fun i S=>∃ n p:Val,S.boxes=[(Z,.c [vint 0,vint 0,vstr qH]),(R,.c (qS p)),(Q,.c (qS n))]/\(i=0->n=a)/\(0 < i->Jv a=some n.n)/\(i < 2->p=b)/\(i=2->Jv b=some p.n)/\S.σ 0=vstr op/\S.σ 4=ptr Q/\S.σ 5=ptr R/\S.σ 6=ptr Z/\S.σ 55=.list (some y) 1 [[ptr Q],[ptr R]]/\S.σ 56=vint 2/\S.σ 57=vint i) ⟨_,_,_,_,zc _,zc _,zp _,zp _,?_⟩ (fun i S hi ⟨n,p,d,i1,i2,i3,i4,g0,g4,g5,g6,ae,aa,w⟩=>?_) (fun S ⟨n,p,d,i1,i2,i3,i4,g0,g4,g5,g6,ae,aa,w⟩=>?_)
  ·refine qB ?_;simp
  ·rcases(show i=0∨i=1 by omega) with rfl | rfl
   ·obtain rfl:=i1 rfl;obtain rfl:=i3 (by decide);have w:S.σ 57=vint 0:=w;by_cases O:n.kind=2
    ·have K1:=eq_true O;have ea:Jv n=QV n.n:=if_pos O;refine qi _ af ?_;cases ab:QV n.n with
     | none =>
      rw [e1 (ea.trans ab)];exact qe
     | some x =>
      simp only [↓rA,rU,z,w,w1,simprocAttr];refine lP ⟨⟨3,x,qH⟩,p,rfl,fun h=>absurd h (by decide),fun _=>ea.trans ab,fun _=>rfl,fun h=>absurd h (by decide),?_⟩;exact qA
    ·have ea:Jv n=some n.n:=if_neg O;simp only [↓rA,rU,z,d,ae,aa,w,O,w1,simprocAttr];refine lP ⟨n,p,d,fun h=>absurd h (by decide),fun _=>ea,fun _=>rfl,fun h=>absurd h (by decide),?_⟩;exact qA
   ·obtain rfl:=i3 (by decide);have hx:=i2 (by decide);have w:S.σ 57=vint 1:=w;by_cases kb:p.kind=2
    ·have KB:=eq_true kb;have eb:Jv p=QV p.n:=if_pos kb;refine qi _ aj ?_;cases ab:QV p.n with
     | none =>
      rw [e2 (eb.trans ab)];exact qe
     | some x =>
      simp only [↓rA,rU,z,w,w2,simprocAttr];refine lP ⟨n,⟨3,x,qH⟩,rfl,fun h=>absurd h (by decide),fun _=>hx,fun h=>absurd h (by decide),fun _=>eb.trans ab,?_⟩;exact qA
    ·have eb:Jv p=some p.n:=if_neg kb;simp only [↓rA,rU,z,d,ae,aa,w,kb,w2,simprocAttr];refine lP ⟨n,p,d,fun h=>absurd h (by decide),fun _=>hx,fun h=>absurd h (by decide),fun _=>eb,?_⟩;exact qA
  ·have hx:=i2 (by decide);have hy:=i4 rfl;have w:S.σ 57=vint 2:=w;rw [e _ _ hx hy];have fin:∀ o:Option Int,Zm 3 (if o.isSome=true then some (o.getD 0) else none)=Zm 3 o:=fun o=>by cases o <;> rfl
   by_cases C:op=(⟨#[43]⟩:Str)
   ·have O1:=eq_true C;rw [if_pos C];have K:=qop n.n p.n;generalize wG n.n p.n=o at K ⊢;simp only [↓rA,rU,z,d,g0,g4,g5,aa,w,O1,simprocAttr];refine qo _ K ?_;refine qi _ (yy 3 (o.getD 0) o.isSome) ?_;rw [fin];exact qe
   rw [if_neg C];by_cases M:op=(⟨#[45]⟩:Str)
   ·have O2:=eq_true M;rw [if_pos M];have K:=qBr n.n p.n;generalize yQ n.n p.n=o at K ⊢;simp only [↓rA,rU,z,d,g0,g4,g5,aa,w,C,O2,simprocAttr];refine qo _ K ?_;refine qi _ (yy 3 (o.getD 0) o.isSome) ?_;rw [fin];exact qe
   rw [if_neg M];by_cases P:op=(⟨#[42]⟩:Str)
   ·have O3:=eq_true P;rw [if_pos P];have K:=qCl n.n p.n;generalize XE n.n p.n=o at K ⊢;simp only [↓rA,rU,z,d,g0,g4,g5,aa,w,C,M,O3,simprocAttr];refine qo _ K ?_;refine qi _ (yy 3 (o.getD 0) o.isSome) ?_;rw [fin];exact qe
   rw [if_neg P];by_cases o4:op=(⟨#[47]⟩:Str)
   ·have O4:=eq_true o4;rw [if_pos o4];have K:=qEx n.n p.n;generalize XF n.n p.n=o at K ⊢;simp only [↓rA,rU,z,d,g0,g4,g5,aa,w,C,M,P,O4,simprocAttr];refine qo _ K ?_;refine qi _ (yy 3 (o.getD 0) o.isSome) ?_;rw [fin];exact qe
   rw [if_neg o4];refine qi _ (yy 3 0 false) ?_;exact qe
open Arr
structure VW (c:Cat) (rows:List Rw) (t:Int) (N:Str->Prop) (rk:Str->Nat) (fv:Str->Str->Val) (fi:Str->Str->FID->Prop):Prop where
 sol:qJ9 c rows t N rk fv fi
 feats:c.features.length<=Go.Proofs.YtkdgbjhbpbgdeaaGreatDoor.big
 tabs:c.tables.length<=1000000
 tick:0<=t/\t<=1099511627776
structure VS (c:Cat) (rows:List Rw) (N:Str->Prop) (rk:Str->Nat) (R:Nat) (x:E):Prop where
 fit:uh x
 ev:Jj c rows x
 ref:∀ m ∈ Ub x,N m/\rk m < R
theorem qyb {rows:List Rw} {d:Str->Nat} (h:VW c rows t N d fv fi) (R:Nat):qmz c rows t N d fv fi R:=by
 induction R using Nat.strongRecOn with
 | _ R j=>exact qDy h.sol h.feats R fun a e=>qob qho h.sol h.tabs h.tick a (j a e)
theorem qbt (h:0<=t/\t<=1099511627776):jb t=true:=by unfold jb;simp_all
def qk9 (c:Cat) (rows:List Rw) (x:E) (key:Str) (t:Int) (u:Val) (P:FID->Prop):Prop :=
 Ok prog 29 [zO c,qZ rows,vE x,vstr key,vint t] [] fun v e h=>(∃ a g d,v=.agg [vint u.kind,vint u.n,vstr u.s,Lo.mp a]/\e=[(a,mI g d)]/\ug g d P)/\h=[]
theorem qht {rows:List Rw} {u:Str->Nat} (h:VW c rows t N u fv fi) {R:Nat} {x:E} (k:VS c rows N u R x) (key:Str):qk9 c rows x key t (jt c rows t fv x key) (W8 c rows t fv fi x key):=by
 unfold qk9;have p:=qob qho h.sol h.tabs h.tick R (qyb h R) x k.fit k.ev k.ref key;have q:=qec t;rw [qbt h.tick] at q;rw [vE,qY] at p ⊢;refine oE func29 fun F w0 Q=>?_;refine qb fun z G=>?_;refine qb fun A H=>?_;refine qb fun w C=>?_;refine qb fun a K=>?_;refine qB ?_;refine qX fun y D=>?_;have j:=aI G (aI H (aI C (aI K D)));refine qi _ q ?_;refine qb fun e hd=>?_;refine qB ?_;refine qX fun d I=>?_;refine qB ?_;refine qX fun n M=>?_;have j:=aI j (aI hd (aI I M));have J:=p n e d a (fun _=>false) (fun _=>False) [(a,mI [] 0),(n,.c (qT c++[qZ rows,vint t,Lo.mp e,Lo.mp d])),(e,mD [] 0),(d,mB [] 0)] (by unfold Ap4;simp only [j,ne_eq,not_false_eq_true,and_self]) (fun _ _ _=>rfl) ⟨[],0,[],0,[],0,[],fun _=>.c [],UB.nil _ _ _,fun _=>rfl,ug.nil,⟨y8,y8,y8,y8⟩,rfl⟩;refine qa ?_;refine qr _ [] ?_ (Ok.frame [(y,.c [vint 0,vint 0,vstr qH,Lo.mp a]),(w,.c [vint 0,vint 0,vstr qH,.lit (.map none)]),(A,.c (Go.Lo.cH x.hd (kI x.args))),(z,.c (qT c))] J) ?_
 ·rw [wl];exact(x8 (l₁:=[_,_,_]) (l₂:=[_,_,_,_,_])).trans (((ux (l₁:=[_,_,_])).symm.trans ((List.Perm.swap _ _ []).append_left [_,_,_,_,_])).cons _)
 rintro v _ rs ⟨T,rfl,Z,rfl,⟨O,W,P,U,gs,o,S,f2,Y,X,L,_,rfl⟩,rfl⟩;refine qa ?_;exact⟨_,[(a,mI gs o)],[],Le.refl _,((((List.Sublist.cons_cons _ (zn _)).cons _).cons _).cons _).cons _,zn _,⟨a,gs,o,rfl,rfl,L.congr fun i=>⟨fun h=>h.elim (fun h=>h.elim) id,.inr⟩⟩,rfl⟩
theorem qUu (c:Cat) (rows:List Rw) (x:E) (key:Str) (a:¬ (0<=t/\t<=1099511627776)):qk9 c rows x key t val0 fun _=>False:=by
 unfold qk9;have n:jb t=false:=by unfold jb;simpa using a
 have a:=qec t;rw [n] at a;rw [vE,qY];refine oE func29 fun F A p=>?_;refine qb fun w j=>?_;refine qb fun y k=>?_;refine qb fun q e=>?_;refine qb fun d o=>?_;refine qB ?_;refine qX fun u h=>?_;have z:=aI j (aI k (aI e (aI o h)));refine qi _ a ?_;refine qa ?_;exact⟨_,[(d,mI [] 0)],[],Le.refl _,(List.Sublist.cons_cons _ (zn _)).cons _,zn _,⟨d,[],0,rfl,rfl,ug.nil⟩,rfl⟩
theorem yC {rows:List Rw} {x:E} {u:Val} {P:FID->Prop} (hb:qk9 c rows x key t u P):zk prog 11 [zO c,qZ rows,vE x,vstr key,vint t] (.agg (qS u)):=by
 unfold qk9 at hb;rw [vE,qY] at hb ⊢;refine oE func11 fun F D p=>?_;refine qb fun e k=>?_;refine qb fun h n=>?_;refine qb fun d j=>?_;have y:=aI k (aI n j);refine qa ?_;refine zB [] _ (zp _) hb ?_;rintro v q C ⟨⟨a,g,w,rfl,rfl,A⟩,rfl⟩ o;have z:(a ≠ d/\d ≠ a)/\(a ≠ h/\h ≠ a)/\(a ≠ e/\e ≠ a):=by
  have:a ∉ [d,h,e]:=(js.1 o).1;simp only [xb,y8,or_false,not_or] at this;exact⟨⟨this.1,qKh this.1⟩,⟨this.2.1,qKh this.2.1⟩,⟨this.2.2,qKh this.2.2⟩⟩
 exact qe
theorem qgp {rows:List Rw} {e:Str->Nat} (h:VW c rows t N e fv fi) {R:Nat} {f:Ftr} {name:Str} (j:xl c.features name=some f) (k:VS c rows N e R f.body) (key:Str) :
  zk prog 42 [zO c,qZ rows,vstr name,vstr key,vint t] (.tup [.agg (qS (jt c rows t fv f.body key)),vint 0]):=by
 have a:=yC (qht h k key);have d:=Y6 c name h.feats;rw [j] at d;simp only [J4,qs] at d;rw [vE,qY] at a;generalize jt c rows t fv f.body key=y at a ⊢;refine oE func42 fun F z n=>?_;refine qb fun q x=>?_;refine qb fun o u=>?_;refine qi _ d ?_;refine qb fun p w=>?_;refine qi _ a ?_;exact qe
theorem qpq:zk prog 76 [nilS,.lit (.func (.func 77) #[] #[])] (.tup []):=Ok.sortNil Tryz.sortF 0 _
theorem qpr (l:List FID) (rest:List V) (b cap:Nat) (e:l.length < 4611686018427387904) :
  Ok prog 76 [.lit (.slice (some ⟨b,0,none⟩) l.length cap),.lit (.func (.func 77) #[] #[])] [(b,.c ((l.map Qc).flatten++rest))] fun v d rs =>
   v=.tup []/\rs=[]/\∃ a:List FID,a.Perm l/\a.Pairwise (fun x y=>¬ cmpID y x < 0)/\d=[(b,.c ((a.map Qc).flatten++rest))] :=
 Ok.sortFunc Tryz.sortF (k:=2) isAgg60 sizeOf60 Qc (fun _=>rfl) cmpID (qcb uT) (g:=77) (enters_of func77 (by rfl) rfl) l
  (fun x h y j=>qhi x y) rest b cap e
theorem qgn (l:List FID):(l.map Qc).flatten.length=l.length * 2:=by
 induction l with
 | nil=>rfl
 | cons x l a=>simp only [z7,List.flatten_cons,zr,a,List.length_cons,List.length_nil];omega
abbrev qou (l:List FID):Prop:=l.Pairwise fun a b=>cmpID a b < 0
theorem qv3 {l m:List FID} (n:qou l) (o:m.Nodup) (p:m.Pairwise fun x y=>¬ cmpID y x < 0) (k:∀ i,i ∈ m↔i ∈ l):m=l:=by
 refine Zg (R:=fun a b=>cmpID a b < 0) (fun a b d j=>?_) ?_ n k
 ·have:=uT.anti a b;omega
 ·refine(p.and o).imp fun {x y} h=>?_;have d:=uT.anti x y;have j:¬ cmpID x y=0:=fun e=>h.2 (ZW.1 e);omega
theorem qbd {rows:List Rw} {G:E} {u:Val} {P:FID->Prop} (hb:qk9 c rows G key t u P) (l:List FID) (hl:qou l) (hm:∀ i,i ∈ l↔P i) (al:l.length<=1000000) :
  zk prog 43 [zO c,qZ rows,vE G,vstr key,vint t] (qd9 l):=by
 unfold qk9 at hb;rw [vE,qY] at hb ⊢;refine Ok.mono (Ok.boxP (k:=2) (p:=fun es=>es=l.map Qc) (fun es h e n=>by rw [h] at n;obtain⟨r,_,rfl⟩:=x9.1 n;rfl) ?_) fun v U rs ⟨⟨es,n,hv⟩,h1,h2⟩=>⟨by simp_all,h1,h2⟩;refine oE func43 fun F w0 I0=>?_;refine qb fun w h5=>?_;refine qb fun z h7=>?_;have j:=aI h5 h7;refine qa ?_;refine zB [] _ (zp _) hb ?_;rintro v U rs ⟨⟨a,g,A,rfl,rfl,D⟩,rfl⟩ hN;have O:(a ≠ z/\z ≠ a)/\(a ≠ w/\w ≠ a):=by
  have:a ∉ [z,w]:=(js.1 hN).1;simp only [xb,y8,or_false,not_or] at this;exact⟨⟨this.1,qKh this.1⟩,⟨this.2,qKh this.2⟩⟩
 have j:=aI j O;have ab:(g.map fun p=>p.2.1).Nodup:=(List.pairwise_map.2 (D.apart.imp fun {p q} h=>h.2));have Z:∀ i,i ∈ (g.map fun p=>p.2.1)↔i ∈ l:=fun i=>by rw [<-Kw,D.mem i,hm i]
 have ak:g.length<=1000000:=by
  have e1:(g.map fun p=>p.2.1).length<=l.length:=List.Nodup.length_le_of_subset ab fun i O=>(Z i).1 O;rw [zz] at e1;omega
 refine qa ?_;refine fun J K=>?_;replace K:=zS K;try simp only [Nb] at K
 have j:=aI j K;refine qa ?_;refine jE Ty.mixed (by rfl) (fun x:List Nat × List FID=>(xP g x.1).length) (fun x S=>ve (fun q:FID × Unit=>some q.1) g x.1 x.2/\S.rows=[]/\S.σ 19=ptr J/\((x.2=[]/\S.σ 10=nilS/\S.boxes=[(J,.it a A x.1 A),(a,mI g A),(z,.c (Go.Lo.cH G.hd (kI G.args))),(w,.c (qT c))]) ∨
  ∃ b c1,(x.2.length<=c1/\(b ≠ J/\J ≠ b)/\(b ≠ a/\a ≠ b)/\(b ≠ z/\z ≠ b)/\(b ≠ w/\w ≠ b))/\S.σ 10=.lit (.slice (some ⟨b,0,none⟩) x.2.length c1)/\S.boxes=[(b,.c ((x.2.map Qc).flatten++zC ((c1 - x.2.length) * 2))),(J,.it a A x.1 A),(a,mI g A),(z,.c (Go.Lo.cH G.hd (kI G.args))),(w,.c (qT c))])) ([],[]) ⟨_,_,_,_,zc _,zc _,zp _,zp _,?_⟩ (fun⟨seen,H⟩ S ⟨I,gr,ah,Y⟩=>?_)
 ·exact⟨ve.start _,by rfl,by rfl,.inl ⟨rfl,by rfl,by rfl⟩⟩
 simp only at I Y;have ai:=I.len;have fin:∀ m:List FID,xP g seen=[]->m.Perm H->m.Pairwise (fun x y=>¬ cmpID y x < 0)->m=l:=fun m C d R=>by
  have M:=I.done C;rw [qn4] at M;exact qv3 hl ((d.trans M).nodup_iff.2 ab) R fun i=>((d.trans M).mem_iff).trans (Z i)
 rcases Y with⟨ae,ad,W⟩ | ⟨b,c1,⟨ag,X⟩,ad,W⟩
 ·subst ae;refine qa ?_;refine⟨fun C=>?_,fun e n N=>?_⟩
  ·rw [qU] at C;have e:=fin [] (by simp_all) (zp _) List.Pairwise.nil;refine qi _ qpq ?_;refine qa ?_;exact r0 ⟨rfl,_,rfl,.inl ⟨by rw [<-e];rfl,rfl,rfl⟩⟩
  ·rw [qU] at n;obtain⟨p,d,rfl⟩:=x9.1 n;have T:=I.step D.apart d;have Q:=xW D.apart d;have af:(seen++[p.1]).getLast? = some p.1:=by simp
   simp only at N;refine qb fun ac L=>?_;have j:=aI j L;refine qa ?_;refine fun y=>jS.r ?_;refine qa ?_;refine fun b c1 hb hc=>?_;replace hb:=zS hb;simp only [Nb] at hb;refine qa ?_;refine⟨(seen++[p.1],[p.2.1]),Q,_,[],_,[],List.Sublist.cons_cons _ (List.Sublist.cons _ (zc _)),zn _,zp _,zp _,T,rfl,by exact qA,.inr ⟨b,c1,⟨hc,hb.2.1.symm,hb.2.2.1.symm,hb.2.2.2.1.symm,hb.2.2.2.2.1.symm⟩,by rfl,rfl⟩⟩
 ·refine qa ?_;refine⟨fun C=>?_,fun e n N=>?_⟩
  ·rw [qU] at C;refine qa ?_;refine qr [_] [_,_,_,_] (zp _) (qpr H (zC ((c1 - H.length) * 2)) b c1 (by omega)) ?_;rintro v U rs ⟨rfl,rfl,l',d,R,rfl⟩;refine qa ?_;have e:=fin l' (by simpa [qP] using C) d R;subst e;have aa:=d.length_eq;exact⟨_,[_],[],Le.refl _,List.Sublist.cons_cons _ (zn _),zn _,rfl,_,rfl,.inr ⟨b,c1,_,by rw [zz,aa];omega,by rw [zz,aa],rfl⟩⟩
  ·rw [qU] at n;obtain⟨p,d,rfl⟩:=x9.1 n;have T:=I.step D.apart d;have Q:=xW D.apart d;have af:(seen++[p.1]).getLast? = some p.1:=by simp
   simp only at N;refine qb fun ac L=>?_;have j:=aI j L;refine qa ?_;refine fun y=>jS.r ?_;simp only [↓rA,rU,W,gr,j,X,simprocAttr];refine⟨⟨by rw [zr,qgn,xC,<-uu];omega,ag,by omega⟩,fun b' c' o aj=>?_⟩;simp only [wo,J0,decide_true,qL3,kA,if_false,List.filter_nil,j,X,decide_false,qMw,if_true] at o ⊢;replace o:=zS o;simp only [Nb] at o;refine qa ?_;refine⟨(seen++[p.1],H++[p.2.1]),Q,_,[],_,[],List.Sublist.cons_cons _ (List.Sublist.cons _ (zc _)),zn _,zp _,zp _,T,rfl,by exact qA,.inr ⟨b',c',⟨by rw [zr];omega,o.2.1.symm,o.2.2.1.symm,o.2.2.2.1.symm,o.2.2.2.2.1.symm⟩,by simp only [rU,zr,simprocAttr],?_⟩⟩;show _::_=_::_;rw [qBf (qgn H),zr,k8,qK0];rfl
end Go.Proofs.YtkdgbjhbpbgdeaaGreatDoor
namespace Go.Nv
abbrev zo:Str:=⟨#[99,108,105,99,107,115]⟩
abbrev vG:Str:=⟨#[114,97,116,101,115]⟩
abbrev qws:Str:=⟨#[117,115,101,114]⟩
abbrev QS:Str:=⟨#[115,104,111,112]⟩
abbrev nN:Str:=⟨#[110]⟩
abbrev nF:Str:=⟨#[102]⟩
abbrev uW:Str:=⟨#[108,97,115,116,95,115,104,111,112]⟩
abbrev Kn:Str:=⟨#[114,97,116,101]⟩
abbrev nX:Str:=⟨#[120]⟩
abbrev nU:Str:=⟨#[117]⟩
abbrev nA:Str:=⟨#[97]⟩
abbrev nB:Str:=⟨#[98]⟩
abbrev nS:Str:=⟨#[115]⟩
abbrev Ww (s:Str):E:=.mk { vb 2 with name:=s } []
abbrev Xy (v:Val):E:=.mk { vb 1 with val:=v } []
abbrev um (op tab:Str) (p wk ws:Int):Hd:={ vb 5 with op:=op,table:=tab,param:=p,wk:=wk,ws:=ws }
abbrev jy (op tab fld:Str) (p wk ws:Int):E:=.mk (um op tab p wk ws) [Ww fld,Xy ⟨1,1,qH⟩]
abbrev qBn:Tab:=⟨zo,qws,[⟨nN,⟨2,[],qH⟩⟩,⟨QS,⟨5,[],QS⟩⟩],0⟩
abbrev qH1:Tab:=⟨vG,QS,[⟨nF,⟨3,[],qH⟩⟩],0⟩
abbrev qye:Ftr:=⟨uW,qws,⟨5,[],QS⟩,jy jD zo QS 0 1 0,1⟩
abbrev qyd:Ftr:=⟨Kn,QS,⟨3,[],qH⟩,jy jD vG nF 0 1 0,1⟩
abbrev xBody:E:=.mk (vb 9) [.mk { vb 4 with name:=Kn } [.mk { vb 3 with name:=uW } []],Xy ⟨3,1500000,qH⟩]
abbrev fX:Ftr:=⟨nX,qws,⟨3,[],qH⟩,xBody,1⟩
abbrev xj:Cat:=⟨[qBn,qH1],[qye,qyd,fX],[],[]⟩
abbrev xG:List Rw:=[⟨⟨nS,1⟩,zo,nU,10,[⟨2,4,qH⟩,⟨5,0,nA⟩],0,0⟩,⟨⟨nS,3⟩,vG,nB,12,[⟨3,2250000,qH⟩],0,0⟩,⟨⟨nS,2⟩,zo,nU,14,[⟨2,7,qH⟩,⟨5,0,nB⟩],0,0⟩]
example:XC xj xG 14 3 nX nU=⟨3,2250000,qH⟩:=by rfl
example:XC xj xG 13 3 nX nU=⟨3,1500000,qH⟩:=by rfl
example:jt xj xG 13 (XC xj xG 13 3) (jy JE zo nN 0 1 0) nU=⟨2,4,qH⟩:=by rfl
example:jt xj xG 14 (XC xj xG 14 3) (jy JE zo nN 0 1 0) nU=⟨2,11,qH⟩:=by rfl
example:jt xj xG 14 (XC xj xG 14 3) (jy QZ zo nN 0 2 4) nU=⟨3,7000000,qH⟩:=by rfl
example:jt xj xG 13 (XC xj xG 13 3) (jy QZ zo nN 0 2 4) nU=⟨3,4000000,qH⟩:=by rfl
example:jt xj xG 14 (XC xj xG 14 3) (jy XN zo nN 4 1 0) nU=⟨3,9000000,qH⟩:=by rfl
example:jt xj xG 14 (XC xj xG 14 3) (jy QG zo nN 500 1 0) nU=⟨2,4,qH⟩:=by rfl
end Go.Nv
namespace Go.Proofs.YtkdgbjhbpbgdeaaGreatDoor
open Go.RowKit Go.ChangeShapes Go.WideShapes
theorem qot {w:World} {I:Cells} {b:Nat}:∀ {l a:List V} {o:Nat},yf l a->V.ats w I l b o->V.ats w I a b o
 | _,_,_,.nil,_=>by omega
 | _,_,o,.cons h r,ha=>by
  simp only [V.ats] at ha ⊢;obtain⟨⟨x,d,e,j,k⟩,n⟩:=ha;exact⟨⟨x,d,e,j,h w I x k⟩,qot r n⟩
theorem qdy:∀ {l a:List V},yf l a->l.length=a.length
 | _,_,.nil=>rfl
 | _,_,.cons _ r=>by simp [qdy r]
inductive VO:List (List V)->List (List V)->Prop
 | nil:VO [] []
 | cons {e e':List V} {l l':List (List V)} (h:yf e e') (r:VO l l'):VO (e::l) (e'::l')
theorem VO.len:∀ {l a:List (List V)},VO l a->l.length=a.length
 | _,_,.nil=>rfl
 | _,_,.cons _ r=>by simp [r.len]
theorem VO.lies {w:World} {I:Cells} {b k:Nat}:∀ {l a:List (List V)} {o:Nat},VO l a->V.lies w I k l b o->V.lies w I k a b o
 | _,_,_,.nil,_=>by omega
 | _,_,o,.cons h r,ha=>by
  simp only [V.lies] at ha ⊢;exact⟨qot h ha.1,qdy h▸ha.2.1,r.lies ha.2.2⟩
theorem Le.lists {own:Option Value} {k:Nat} {es d:List (List V)} (h:VO es d):Le (.list own k es) (.list none k d):=by
 intro w I x j;simp only [V.rep] at j ⊢;obtain⟨_,a,c,n,p,q⟩:=j;refine⟨fun y z=>(by cases z),a,c,h.len▸n,h.len▸p,?_⟩;rcases q with e | ⟨b,o,e,u⟩
 ·subst e;cases h;simp
 ·exact .inr ⟨b,o,e,h.lies u⟩
theorem wP:∀ {l a m d:List V},yf l a->yf m d->yf (l++m) (a++d)
 | _,_,_,_,.nil,h=>h
 | _,_,_,_,.cons h r,h'=>.cons h (wP r h')
theorem yc (l m:List V):V.bulks (l++m)=V.bulks l+V.bulks m:=by
 induction l with
 | nil=>simp [V.bulks]
 | cons x l a=>simp only [List.cons_append,V.bulks,a];omega
theorem qa9:∀ vs:List V,vs.length<=V.bulks vs
 | []=>KM _
 | v::r=>by
  have:=qa9 r;have d:1<=V.bulk v:=by
   cases v with
   | lit x=>cases x <;> simp [V.bulk]
   | list a k es=>simp [V.bulk]
   | _=>simp [V.bulk]
  simp only [V.bulks,List.length_cons];omega
variable {d:Nat}
theorem Zp {α:Type} {t e:TypeId} {k m:Nat} (hu:prog.underlying t=some (.slice e)) (D:prog.cellsOf e=k) (c:α->List V) (G:α->Prop) (n:α->Nat) (f:Nat)
  (K:∀ vs,V.bulks vs<=m->TV prog d e vs->∃ x,yf vs (c x)/\G x/\n x<=f * V.bulks vs) (pos:∀ x,0 < (c x).length) {v:V} (h:TV prog (d+1) t [v]) (w:V.bulk v<=m) :
  ∃ l:List α,Le v (.list none k (l.map c))/\l.length+1<=V.bulk v/\(l.map n).sum+f<=f * V.bulk v/\∀ x ∈ l,G x:=by
 simp only [TV,hu] at h;rcases h with h | ⟨es,h,F,u⟩
 ·cases h;exact⟨[],Le.nil k,by simp [V.bulk],by simp [V.bulk],fun x j=>by cases j⟩
 ·rw [D] at h;cases h;clear F;have q:V.bulk (.list none k es)=V.bulkss es+1:=by simp [V.bulk]
  rw [q] at w ⊢;have:∃ l:List α,VO es (l.map c)/\l.length<=V.bulkss es/\(l.map n).sum<=f * V.bulkss es/\∀ x ∈ l,G x:=by
   clear q
   induction es with
   | nil=>exact⟨[],.nil,KM _,KM _,fun x j=>by cases j⟩
   | cons y es J =>
    simp only [V.bulkss] at w;obtain⟨x,p,L,M⟩:=K y (by omega) (u y x6);obtain⟨l,a,A,C,o⟩:=J (fun z I=>u z (z8 _ I)) (by omega);have H:=qa9 y;rw [qdy p] at H;have:=pos x;refine⟨x::l,.cons p a,?_,?_,?_⟩
    ·simp only [List.length_cons,V.bulkss];omega
    ·simp only [z7,List.sum_cons,V.bulkss,qQ3];omega
    simp_all
  obtain⟨l,a,A,C,o⟩:=this;exact⟨l,Le.lists a,by omega,by rw [qQ3];omega,o⟩
theorem xE {v:List V} (h:TV prog d 3 v):∃ n,v=[vint n]/\x5 n:=by
 cases d with
 | zero=>exact h.elim
 | succ d =>
  simp only [TV,Ty.un3] at h;obtain⟨n,rfl,a⟩:=h;refine⟨n,rfl,?_⟩;simp only [Lit.wf,k7,decide_eq_true_eq] at a;have e:IntKind.i64.min=-9223372036854775808:=by decide
  have j:IntKind.i64.max=9223372036854775807:=by decide
  unfold x5;omega
theorem kg {v:List V} (h:TV prog d 9 v):∃ s:Str,v=[vstr s]/\s.size<=maxLen:=by
 cases d with
 | zero=>exact h.elim
 | succ d =>
  assumption
variable {vs:List V}
theorem qC4 (h:TV prog d 294 vs):∃ x:Fac,vs=cFac x:=by
 cases d with
 | zero=>exact h.elim
 | succ d =>
  simp only [TV,underlying294,TVF] at h;obtain⟨j,o,rfl,a,k,p,rfl,e,rfl⟩:=h;obtain⟨s,rfl,_⟩:=kg a;obtain⟨n,rfl,_⟩:=xE e;exact⟨⟨s,n⟩,rfl⟩
theorem qn1 (h:TV prog d 60 vs):∃ i:FID,vs=Qc i:=by
 cases d with
 | zero=>exact h.elim
 | succ d =>
  simp only [TV,underlying60,TVF] at h;obtain⟨j,o,rfl,a,k,p,rfl,e,rfl⟩:=h;obtain⟨s,rfl,_⟩:=kg a;obtain⟨n,rfl,_⟩:=xE e;exact⟨⟨s,n⟩,rfl⟩
theorem qnz (h:TV prog d 37 vs):∃ v:Val,vs=qS v/\x5 v.n:=by
 cases d with
 | zero=>exact h.elim
 | succ d =>
  simp only [TV,underlying37,TVF] at h;obtain⟨u,y,rfl,a,w,z,rfl,e,x,A,rfl,j,rfl⟩:=h;obtain⟨k,rfl,p⟩:=xE a;obtain⟨n,rfl,o⟩:=xE e;obtain⟨s,rfl,q⟩:=kg j;exact⟨⟨k,n,s⟩,rfl,o⟩
theorem qCz (h:TV prog d 39 vs):∃ a b:Int,vs=[vint a,vint b]:=by
 cases d with
 | zero=>exact h.elim
 | succ d =>
  simp only [TV,underlying39,TVF] at h;obtain⟨o,q,rfl,e,p,u,rfl,j,rfl⟩:=h;obtain⟨k,rfl,_⟩:=xE e;obtain⟨n,rfl,_⟩:=xE j;simp
theorem uV {t e:TypeId} (hu:prog.underlying t=some (.slice e)) (h:TV prog d t vs):∃ v a,vs=[v]/\d=a+1:=by
 cases d with
 | zero=>exact h.elim
 | succ d =>
  simp only [TV,hu] at h;rcases h with h | ⟨es,h,_⟩
  ·simp_all
  simp_all
mutual
theorem Vi:∀ x:E,zV x<=kY x
 | .mk h l=>by
  have:=depths_size l;rw [vp,uO];omega
theorem depths_size:∀ l:List E,depthEs l<=sizeEs l
 | []=>KM _
 | x::r=>by
  have a:=Vi x;have d:=depths_size r;simp only [depthEs,sizeEs];omega
end
theorem qer:∀ l:List E,(l.map fun x=>2 * kY x).sum=2 * sizeEs l
 | []=>rfl
 | x::r=>by
  have:=qer r;simp only [z7,List.sum_cons,sizeEs,this];omega
variable {d:Nat} {vs:List V}
theorem qf0 (hb:V.bulks vs<=1048576) (h:TV prog d 33 vs):∃ us:List Fac,yf vs [qN us]/\us.length<=1048576:=by
 obtain⟨u,e,rfl,rfl⟩:=uV Ty.un33 h;simp only [V.bulks] at hb;obtain⟨us,a,j,_,_⟩:=Zp (m:=1048576) Ty.un33 (by rfl:prog.cellsOf 294=2) cFac (fun _=>True) (fun _=>0) 0 (fun vs _ h=>by obtain⟨x,rfl⟩:=qC4 h;exact⟨x,yf.refl _,trivial,KM _⟩) (fun _=>qP7 _) h (by omega);exact⟨us,.cons a .nil,by omega⟩
theorem qxn:∀ (d:Nat) (vs:List V),V.bulks vs<=1048576->TV prog d 41 vs->∃ x:E,yf vs (cE x)/\uh x/\2 * kY x<=1 * V.bulks vs:=by
 intro d
 induction d using Nat.strongRecOn with
 | ind d K =>
 intro vs G h;cases d with
 | zero=>exact h.elim
 | succ d =>
  simp only [TV,underlying41,TVF] at h;obtain⟨R,Z,rfl,w,S,y2,rfl,y,T,y3,rfl,z,U,y4,rfl,A,x5,y5,rfl,C,W,y6,rfl,j,x7,y7,rfl,D,X,aa,rfl,F,Y,y9,rfl,k,rfl⟩:=h;obtain⟨kind,rfl,_⟩:=xE w;obtain⟨op,rfl,_⟩:=kg y;obtain⟨name,rfl,_⟩:=kg z;obtain⟨table,rfl,_⟩:=kg A;obtain⟨val,rfl,J⟩:=qnz C;obtain⟨u,q,rfl,rfl⟩:=uV Ty.un33 j;obtain⟨param,rfl,I⟩:=xE D;obtain⟨O,P,rfl⟩:=qCz F;obtain⟨a,_,rfl,_⟩:=uV Ty.un31 k;simp only [List.cons_append,List.nil_append,V.bulks,qS] at G;obtain⟨N,e,M⟩:=qf0 (by simp only [V.bulks];omega) j;cases e with
  | cons e _ =>
  obtain⟨L,n,Q,o,p⟩:=Zp (m:=1048576) Ty.un31 (by rfl:prog.cellsOf 41=12) cE uh (fun x=>2 * kY x) 1 (fun vs H h=>K q (by omega) vs H h) (fun x=>by rw [qJz];decide) k (by omega);refine⟨.mk ⟨kind,op,name,table,val,N,param,O,P⟩ L,?_,?_,?_⟩
  ·rw [wI];exact .c1 (.c1 (.c1 (.c1 (.c1 (.c1 (.c1 (.cons e (.c1 (.c1 (.c1 (.cons n .nil)))))))))))
  ·exact .mk _ _ (km M (by decide)) (by unfold Go.Proofs.YtkdgbjhbpbgdeaaGreatDoor.big;omega) ⟨J,I⟩ p
  ·rw [uO];rw [qer] at o;simp only [List.cons_append,List.nil_append,V.bulks,qS,V.bulk];omega
theorem qn0 (hb:V.bulks vs<=1048576) (h:TV prog d 35 vs):∃ t:Typ,yf vs [vint t.kind,qN t.unit,vstr t.of]/\t.unit.length<=1048576:=by
 cases d with
 | zero=>exact h.elim
 | succ d =>
  simp only [TV,underlying35,TVF] at h;obtain⟨q,x,rfl,a,u,y,rfl,e,w,z,rfl,j,rfl⟩:=h;obtain⟨kind,rfl,_⟩:=xE a;obtain⟨o,rfl,_⟩:=kg j;rw [yc,yc] at hb;obtain⟨p,k,n⟩:=qf0 (by omega) e;exact⟨⟨kind,p,o⟩,.c1 (wP k (yf.refl _)),n⟩
theorem qC2 (hb:V.bulks vs<=1048576) (h:TV prog d 93 vs):∃ f:Fld,yf vs (KK f)/\xK f.typ:=by
 cases d with
 | zero=>exact h.elim
 | succ d =>
  simp only [TV,underlying93,TVF] at h;obtain⟨j,n,rfl,a,k,o,rfl,e,rfl⟩:=h;obtain⟨name,rfl,_⟩:=kg a;rw [yc,yc] at hb;obtain⟨t,t1,t2⟩:=qn0 (by omega) e;rw [wl];exact⟨⟨name,t⟩,.c1 t1,km t2 (by decide)⟩
theorem qC0 (hb:V.bulks vs<=1048576) (h:TV prog d 47 vs):∃ t:Tab,yf vs (cTab t)/\vf t:=by
 cases d with
 | zero=>exact h.elim
 | succ d =>
  simp only [TV,underlying47,TVF] at h;obtain⟨A,G,rfl,j,C,H,rfl,k,D,I,rfl,e,F,J,rfl,n,rfl⟩:=h;obtain⟨name,rfl,_⟩:=kg j;obtain⟨entity,rfl,_⟩:=kg k;obtain⟨a,y,rfl,rfl⟩:=uV Ty.un45 e;obtain⟨keep,rfl,_⟩:=xE n;simp only [List.cons_append,List.nil_append,V.bulks] at hb;obtain⟨l,p,z,_,q⟩:=Zp (m:=1048576) Ty.un45 (by rfl:prog.cellsOf 93=4) KK (fun f=>xK f.typ) (fun _=>0) 0 (fun vs o h=>by obtain⟨x,u,w⟩:=qC2 o h;exact⟨x,u,w,KM _⟩) (fun _=>qP7 _) e (by omega);exact⟨⟨name,entity,l,keep⟩,.c1 (.c1 (.cons p (.c1 .nil))),by simp only [vf];exact⟨by unfold Go.Proofs.YtkdgbjhbpbgdeaaGreatDoor.big;omega,q⟩⟩
theorem qC1 (hb:V.bulks vs<=1048576) (h:TV prog d 43 vs):∃ f:Ftr,yf vs (cFtr f)/\GF f:=by
 cases d with
 | zero=>exact h.elim
 | succ d =>
  simp only [TV,underlying43,TVF] at h;obtain⟨y,C,rfl,k,z,D,rfl,n,A,F,rfl,o,u,G,rfl,p,x5,H,rfl,q,rfl⟩:=h;obtain⟨name,rfl,_⟩:=kg k;obtain⟨entity,rfl,_⟩:=kg n;obtain⟨version,rfl,_⟩:=xE q;simp only [yc] at hb;obtain⟨t,t1,t2⟩:=qn0 (by omega) o;obtain⟨x,a,j,w⟩:=qxn _ u (by omega) p;have e:kY x<=1000000:=by omega
  refine⟨⟨name,entity,t,x,version⟩,?_,⟨km t2 (by decide),j⟩,km (Vi x) (km e (by decide)),e⟩;rw [qs];rw [qY] at a;exact .c1 (.c1 (wP t1 (wP a (yf.refl _))))
theorem qC7 (hb:V.bulks vs<=1048576) (h:TV prog d 71 vs):∃ c:Chg,yf vs (yn c)/\qia c/\GF c.feature:=by
 cases d with
 | zero=>exact h.elim
 | succ d =>
  simp only [TV,underlying71,TVF] at h;obtain⟨n,u,rfl,a,o,w,rfl,e,p,x,rfl,j,q,y,rfl,k,rfl⟩:=h;obtain⟨kind,rfl,_⟩:=xE a;obtain⟨name,rfl,_⟩:=kg k;simp only [yc] at hb;obtain⟨t,t1,t2⟩:=qC0 (by omega) e;obtain⟨f,f1,f2⟩:=qC1 (by omega) j;refine⟨⟨kind,t,f,name⟩,?_,⟨t2,f2.1⟩,f2⟩;rw [qs] at f1;rw [wJ,wl];exact .c1 (wP t1 (wP f1 (yf.refl _)))
theorem qC3 (hb:V.bulks vs<=1048576) (h:TV prog d 110 vs):∃ f:Fct,yf vs (KN f)/\f.fields.length<=1048576/\∀ v ∈ f.fields,x5 v.n:=by
 cases d with
 | zero=>exact h.elim
 | succ d =>
  simp only [TV,underlying110,TVF] at h;obtain⟨D,J,rfl,j,F,K,rfl,k,G,L,rfl,n,H,M,rfl,o,x5,N,rfl,p,I,O,rfl,q,x7,P,rfl,e,rfl⟩:=h;obtain⟨i,rfl⟩:=qn1 j;obtain⟨kind,rfl,_⟩:=xE k;obtain⟨ref,rfl,_⟩:=xE n;obtain⟨table,rfl,_⟩:=kg o;obtain⟨key,rfl,_⟩:=kg p;obtain⟨event,rfl,_⟩:=xE q;obtain⟨a,z,rfl,rfl⟩:=uV Ty.un57 e;simp only [List.cons_append,List.nil_append,V.bulks] at hb;obtain⟨l,u,C,_,w⟩:=Zp (m:=1048576) Ty.un57 (by rfl:prog.cellsOf 37=3) qS (fun v=>x5 v.n) (fun _=>0) 0 (fun vs A h=>by obtain⟨x,rfl,y⟩:=qnz h;exact⟨x,yf.refl _,y,KM _⟩) (fun _=>qP7 _) e (by omega);exact⟨⟨i.src,i.seq,kind,ref,table,key,event,l⟩,.c1 (.c1 (.c1 (.c1 (.c1 (.c1 (.c1 (.cons u .nil))))))),by simp only;omega,w⟩
theorem qC6 (hb:V.bulks vs<=1048576) (h:TV prog d 112 vs):∃ e:Ers,vs=Up e/\e.key.size<=1048576:=by
 cases d with
 | zero=>exact h.elim
 | succ d =>
  simp only [TV,underlying112,TVF] at h;obtain⟨o,w,rfl,a,p,x,rfl,j,q,y,rfl,k,u,z,rfl,n,rfl⟩:=h;obtain⟨kind,rfl,_⟩:=xE a;obtain⟨entity,rfl,_⟩:=kg j;obtain⟨key,rfl,_⟩:=kg k;obtain⟨i,rfl⟩:=qn1 n;simp only [List.cons_append,List.nil_append,V.bulks,V.bulk] at hb;exact⟨⟨kind,entity,key,i.src,i.seq⟩,rfl,by simp only;omega⟩
theorem qC5 (hb:V.bulks vs<=1048576) (h:TV prog d 114 vs):∃ e:yg,yf vs (XJ e)/\VR e/\∀ v ∈ e.fact.fields,x5 v.n:=by
 cases d with
 | zero=>exact h.elim
 | succ d =>
  simp only [TV,underlying114,TVF] at h;obtain⟨A,F,rfl,n,C,G,rfl,o,D,H,rfl,p,y,I,rfl,q,x5,J,rfl,u,z,K,rfl,w,rfl⟩:=h;obtain⟨no,rfl,_⟩:=xE n;obtain⟨tick,rfl,_⟩:=xE o;obtain⟨kind,rfl,_⟩:=xE p;simp only [yc] at hb;obtain⟨f,f1,f2,f3⟩:=qC3 (by omega) q;obtain⟨x,rfl,k⟩:=qC6 (by omega) u;obtain⟨c,c1,a,j⟩:=qC7 (by omega) w;refine⟨⟨no,tick,kind,f,x,c⟩,?_,⟨a,j,km k (by decide),km f2 (by decide)⟩,f3⟩;show yf (vint no::vint tick::vint kind::(y++(Up x++(z++[])))) (vint no::vint tick::vint kind::(KN f++(Up x++yn c)));rw [wl];exact .c1 (.c1 (.c1 (wP f1 (wP (yf.refl _) c1))))
theorem qzg (e:yg):0 < (XJ e).length:=by rw [ym];simp
theorem qDf {a:V} (h:TA prog d 22 a) (hb:V.bulkA a<=1048576):∃ l:List yg,Le a (xN l)/\l.length<=1048576/\(∀ e ∈ l,VR e)/\∀ e ∈ l,∀ v ∈ e.fact.fields,x5 v.n:=by
 unfold TA at h;simp only [Ty.ag22] at h;cases d with
 | zero=>exact h.elim
 | succ d =>
  have n:V.bulk a<=1048576:=by
   simp only [TV,Ty.un22] at h;rcases h with h | ⟨es,h,_⟩ <;> (cases h;exact hb)
  obtain⟨l,p,y,_,k⟩:=Zp (m:=1048576) Ty.un22 (by rfl:prog.cellsOf 114=40) XJ (fun e=>VR e/\∀ v ∈ e.fact.fields,x5 v.n) (fun _=>0) 0 (fun z o h=>by obtain⟨x,q,u,w⟩:=qC5 o h;exact⟨x,q,⟨u,w⟩,KM _⟩) (fun x=>qzg x) h n;exact⟨l,p,by omega,fun e j=>(k e j).1,fun e j=>(k e j).2⟩
theorem Vv:∀ {d:List V} {a:V},a ∈ d->V.bulkA a<=V.bulkAs d
 | b::r,a,h=>by
  rcases xb.1 h with rfl | h
  ·simp only [V.bulkAs];omega
  ·have:=Vv h;simp only [V.bulkAs];omega
mutual
theorem uA {H:Type}:∀ d:DataW H,Rows.uptoBulk d=wK d
 | .lit (.string b)=>by rfl
 | .lit (.int _ _)=>by rfl
 | .lit (.bool _)=>by rfl
 | .lit (.float _ _)=>by rfl
 | .lit .nil=>by rfl
 | .nil=>by rfl
 | .ptr d=>by simp only [Rows.uptoBulk,wK,uA d]
 | .slice es sp=>by simp only [Rows.uptoBulk,wK,bulks_eq es,bulks_eq sp]
 | .agg ps=>by simp only [Rows.uptoBulk,wK,bulks_eq ps]
 | .iface _ d=>by simp only [Rows.uptoBulk,wK,uA d]
 | .map es=>by simp only [Rows.uptoBulk,wK,bulke_eq es]
 | .held _=>by rfl
theorem bulks_eq {H:Type}:∀ ds:List (DataW H),Rows.uptoBulkAll ds=bulkDs ds
 | []=>by rfl
 | d::r=>by simp only [Rows.uptoBulkAll,bulkDs,uA d,bulks_eq r]
theorem bulke_eq {H:Type}:∀ es:List (Lit × DataW H),Rows.uptoBulkEntries es=bulkDe es
 | []=>by rfl
 | x::r=>by simp only [Rows.uptoBulkEntries,bulkDe,bulkx_eq x,bulke_eq r]
theorem bulkx_eq {H:Type}:∀ x:Lit × DataW H,Rows.uptoBulkEntry x=bulkDx x
 | (.string b,d)=>by simp only [Rows.uptoBulkEntry,bulkDx,uA d]
 | (.int _ _,d)=>by simp only [Rows.uptoBulkEntry,bulkDx,uA d]
 | (.bool _,d)=>by simp only [Rows.uptoBulkEntry,bulkDx,uA d]
 | (.float _ _,d)=>by simp only [Rows.uptoBulkEntry,bulkDx,uA d]
 | (.nil,d)=>by simp only [Rows.uptoBulkEntry,bulkDx,uA d]
end
theorem qk0 {d:Nat} {a:V} (h:TA prog d 3 a):∃ n,a=vint n:=by
 unfold TA at h;simp only [Ty.ag3] at h;obtain⟨n,e,_⟩:=xE h;simp_all
theorem qJb {d:Nat} {a:V} (h:TA prog d 9 a):∃ s,a=vstr s:=by
 unfold TA at h;simp only [Ty.ag9] at h;obtain⟨n,e,_⟩:=kg h;simp_all
theorem UO {P:Program} {w:World} {I:Cells} {enc:TypeId × Value->Unit} {base:Nat} {spare:Nat->Bool} {held:Bool} {n:Nat} {e:TypeId} {b o:Nat} (u:∀ b o x,w.cell? ⟨b,o,none⟩=some x->I b o) (C:P.underlying e=some .string) :
  ∀ (a:List ByteArray) (j:Nat) (d:List (DataW Unit × List MemPlace)),d.map (·.1)=a.map (fun s=>.lit (.string s.data.toList)) ->
   (∀ i,i < a.length->(w.cells? base ((⟨b,o,none⟩:Addr).add ((j+i) * 1)) 1).bind (DataW.trod enc P w base spare held n e)=d[i]?)->V.lies w I 1 (a.map fun s=>[V.lit (.string s)]) b (o+j)
 | [],j,d,_,_=>by simp only [Jx,V.lies]
 | s::a,j,[],h,_=>by simp at h
 | s::a,j,y::d,h,hd=>by
  simp only [z7,qKi] at h;have q:=hd 0 (by simp);simp only [Nat.add_zero,qPh,List.getElem?_cons_zero,qOi] at q;obtain⟨L,G,J⟩:=q;obtain⟨p,rfl,K,_⟩:=DataW.trod_string C J;have H:p=s:=by
   have k:=h.1;rw [K] at k;simp only [DataW.lit.injEq,Lit.string.injEq] at k;obtain⟨⟨l⟩⟩:=s;obtain⟨⟨O⟩⟩:=p;simp only at k;rw [k]
  subst H;obtain⟨_,_,F⟩:=World.cells?_some G;have z:=F 0 (by simp);simp only [List.getElem?_cons_zero] at z;have A:w.cell? ⟨b,o+j,none⟩=some (.string p):=by
   rw [<-z];by_cases D:j=0
   ·subst D;rfl
   ·simp [Addr.add,D]
  simp only [z7,V.lies,V.ats];refine⟨⟨⟨_,A,u _ _ _ A,by simp [Go.VL.one],by rfl⟩,trivial⟩,rfl,?_⟩;have N:=UO (enc:=enc) (base:=base) (spare:=spare) (held:=held) (n:=n) u C a (j+1) d h.2 fun i M=>by
   have:=hd (i+1) (by simp_all);rw [show j+(i+1)=j+1+i by omega] at this;assumption
  omega
theorem qu4 {P:Program} {w:World} {I:Cells} {enc:TypeId × Value->Unit} {base:Nat} {spare:Nat->Bool} {held:Bool} {G:Nat} {t e:TypeId} {cs:List Value} {p:List MemPlace} (H:∀ b o x,w.cell? ⟨b,o,none⟩=some x->I b o)
  (hu:P.underlying t=some (.slice e)) (M:P.underlying e=some .string) (hc:P.cellsOf e=1) (s:ByteArray) (k:List ByteArray)
  (h:DataW.trod enc P w base spare held G t cs=some (.slice ((s::k).map fun s=>.lit (.string s.data.toList)) [],p)):∃ x,cs=[x]/\Go.VL.one x/\V.rep w I (.list none 1 ((s::k).map fun s=>[V.lit (.string s)])) x:=by
 rcases DataW.trod_slice hu h with⟨_,j⟩ | ⟨a,len,cap,d,rest,n,rfl,rfl,j,R,T,X,W,D,_,_⟩
 ·cases j
 ·simp only [qQl,DataW.slice.injEq] at j;obtain⟨⟨F,Z⟩,_⟩:=j;have Y:d.length=k.length+1:=by
   have:=congrArg List.length F;simpa using this.symm
  obtain⟨b,o,spot⟩:=a;have O:spot=none:=by
   have C:=D 0 (by omega);rw [hc,show d[0]? = some (d[0]'(by omega)) from by simp,qOi] at C;obtain⟨z,L,_⟩:=C;obtain⟨_,U,K⟩:=World.cells?_some L;have A:=K 0 (by omega);obtain⟨u,J⟩:∃ u,z[0]? = some u:=⟨z[0]'(by omega),by simp⟩;rw [J] at A;have:=World.cell?_spot A;cases spot with
   | none=>rfl
   | some q=>assumption
  subst O;have N:=UO (b:=b) (o:=o) H M (s::k) 0 d F.symm fun i S=>by
   have:=D i (by simp_all);rw [hc] at this;rw [qJ0];omega
  refine⟨_,rfl,by simp [Go.VL.one],?_⟩;simp only [V.rep];refine⟨fun y Q=>(by cases Q),some ⟨b,o,none⟩,cap,?_,?_,.inr ⟨b,o,rfl,N⟩⟩
  ·simp_all
  simp_all
abbrev qxa : List (String × DataW Unit) := [("asof/checker.aggregates", Rows.laid_asof_checker_aggregates), ("asof/checker.unary", Rows.laid_asof_checker_unary), ("asof/checker.binary", Rows.laid_asof_checker_binary)]
theorem qDm {W:World} (h:laidMetH prog qxa W) (R:W.ShapedOpen prog):UC W fun b _=>b < W.heap.size:=by
 have n:∀ b o x,W.cell? ⟨b,o,none⟩=some x->(fun b _=>b < W.heap.size:Cells) b o:=fun b o x u=>by
  unfold World.cell? at u;show b < W.heap.size;by_cases h:b < W.heap.size
  ·exact h
  simp_all
 have one:∀ {e:String} {g t:Nat} {k w:Nat} {a:Array Value} {y:Nat} {p:List MemPlace} (s:ByteArray) (j:List ByteArray),prog.globalNamed e=some g->(prog.globals[g]?).map (·.type)=some t->prog.underlying t=some (.slice 9) ->
   prog.globalNamed e=some k->(prog.globals[k]?).map (·.type)=some w->W.var? prog e=some a->DataW.trod (fun _=>()) prog W 0 (fun _=>true) false y w a.toList=some (.slice ((s::j).map fun s=>.lit (.string s.data.toList)) [],p) ->
   V.ats W (fun b _=>b < W.heap.size) [.list none 1 ((s::j).map fun s=>[V.lit (.string s)])] g 0:=by
  intro e g t k w a y p s j d S hu N T U hd;obtain rfl:=KL (d.symm.trans N);obtain rfl:=KL (S.symm.trans T);obtain⟨x,u,M,Q⟩:=qu4 (I:=fun b _=>b < W.heap.size) n hu Ty.un9 (by rfl) s j hd;have q:=World.var?_cell d U 0;have X:a[0]? = some x:=by
   have:=congrArg (·[0]?) u;simpa using this
  rw [X] at q;simp only [V.ats];exact⟨⟨x,q,n _ _ _ q,M,Q⟩,trivial⟩
 obtain⟨ps,⟨g0,t0,Y,f0,p0,q0,C,G,K,d0,⟨g1,t1,Z,f1,p1,q1,D,H,c1,d1,⟨g2,t2,aa,f2,p2,q2,F,J,L,d2,_⟩,_⟩,_⟩,_⟩:=h;refine⟨fun p O=>?_,fun g d=>?_⟩
 ·have A:p ∈ globsV:=O;simp only [globsV,xb,y8,or_false] at A;rcases A with rfl | rfl | rfl
  ·exact one (t := 56) ⟨#[99, 111, 117, 110, 116]⟩ [⟨#[115, 117, 109]⟩, ⟨#[109, 101, 97, 110]⟩, ⟨#[109, 105, 110]⟩, ⟨#[109, 97, 120]⟩, ⟨#[102, 105, 114, 115, 116]⟩, ⟨#[108, 97, 115, 116]⟩, ⟨#[100, 105, 115, 116, 105, 110, 99, 116]⟩, ⟨#[113, 117, 97, 110, 116, 105, 108, 101]⟩, ⟨#[100, 101, 99, 97, 121]⟩] (by rfl : prog.globalNamed "asof/checker.aggregates" = some 1) (by rfl) (by rfl) C G K d0
  ·exact one (t := 56) ⟨#[45]⟩ [⟨#[110, 111, 116]⟩, ⟨#[110, 117, 108, 108]⟩] (by rfl : prog.globalNamed "asof/checker.unary" = some 2) (by rfl) (by rfl) D H c1 d1
  ·exact one (t := 56) ⟨#[43]⟩ [⟨#[45]⟩, ⟨#[42]⟩, ⟨#[47]⟩, ⟨#[61, 61]⟩, ⟨#[33, 61]⟩, ⟨#[60]⟩, ⟨#[60, 61]⟩, ⟨#[97, 110, 100]⟩, ⟨#[111, 114]⟩] (by rfl : prog.globalNamed "asof/checker.binary" = some 3) (by rfl) (by rfl) F J L d2
 ·obtain rfl:=kl.1 d;obtain⟨m,z⟩:=cell_of_shapedOpen_int (P:=prog) (g:=0) (t:=3) (zero:=#[.int .i64 0]) R (of_decide_eq_true (by rfl)) (by kernel_rfl) rfl (by rfl) (by rfl) Ty.un3;exact⟨m,z,n _ _ _ z⟩
theorem uK (n:Int):zk prog 14 [vint n] (.agg (qS ⟨2,n,qH⟩)):=by
 refine oE func14 fun F h a=>?_;refine qb fun d e=>?_;exact qe
theorem QA (n:Int):zk prog 44 [vint n] (.agg (qS ⟨3,n,qH⟩)):=by
 refine oE func44 fun F h a=>?_;refine qb fun d e=>?_;exact qe
theorem qnx (s:Str):zk prog 73 [vstr s] (.agg (qS ⟨5,0,s⟩)):=by
 refine oE func73 fun F h a=>?_;refine qb fun d e=>?_;exact qe
theorem qk8 (n:Int):zk prog 72 [vint n] (.agg [vstr nS,vint n]):=by
 refine oE func72 fun F h a=>?_;refine qb fun d e=>?_;exact qe
variable {h:Hd}
theorem qnw {a b:V} (hu:h.unit=[]) (d:Le a b):Le (.agg [vint h.kind,vstr h.op,vstr h.name,vstr h.table,vint h.val.kind,vint h.val.n,vstr h.val.s,nilS,vint h.param,vint h.wk,vint h.ws,a]) (.agg (Go.Lo.cH h b)):=by
 refine wc (.c1 (.c1 (.c1 (.c1 (.c1 (.c1 (.c1 (.cons ?_ (.c1 (.c1 (.c1 (.cons d .nil))))))))))));rw [hu];exact Le.nil 2
theorem qr8 (s:Str):zk prog 74 [vstr s] (.agg (Go.Lo.cH { vb 2 with name:=s } (kI []))):=by
 refine oE func74 fun F j a=>?_;refine qb fun d e=>?_;refine qa ?_;exact Yq (qnw (h:={ vb 2 with name:=s }) rfl (Le.nil 12))
theorem qck (v:Val):zk prog 28 [.agg (qS v)] (.agg (Go.Lo.cH { vb 1 with val:=v } (kI []))):=by
 refine oE func28 fun F n a=>?_;refine qb fun d j=>?_;refine qb fun e k=>?_;refine qa ?_;exact Yq (qnw (h:={ vb 1 with val:=v }) rfl (Le.nil 12))
theorem uU (op tab fld:Str) (p wk ws:Int):zk prog 41 [vstr op,vstr tab,vstr fld,vint p,.agg [vint wk,vint ws]] (.agg (Go.Lo.cH (um op tab p wk ws) (kI [Ww fld,Xy ⟨1,1,qH⟩]))):=by
 have a:=qr8 fld;have d:=qck ⟨1,1,qH⟩;refine oE func41 fun F u j=>?_;refine qb fun n q=>?_;refine qb fun k o=>?_;refine qa ?_;refine qt _ a.v ?_;refine qa ?_;refine qt _ d.v ?_;refine qa ?_;have e:kI [Ww fld,Xy ⟨1,1,qH⟩]=.list none 12 [Go.Lo.cH { vb 2 with name:=fld } (kI []),Go.Lo.cH { vb 1 with val:=⟨1,1,qH⟩ } (kI [])]:=rfl;rw [e];exact Yq (qnw (h:=um op tab p wk ws) rfl (Le.list _ _ _))
theorem qoq {C:Ctx} {k:List It} {S:St} {Q:Exit->St->Prop} {hc:Option Bool} {ops:Array Oper} {d:Option Nat} {ty:TypeId} {pos:String} {af:Array Edge} {gd:Option (Nat × Bool)} {l:List Oper} (t:TypeId) (n:Nat) (ps:List (Nat × Operand)) :
  xJ C (.g hc) ops ⟨d,.buildSlice t n ps.toArray,ty,pos,af,gd⟩ l k S Q=buildSliceD C.P t n (ps.map fun p=>(p.1,ev S.σ p.2)) fun v=>EX C (.ops (.g hc) ops l::k) (S.put d v) Q:=rfl
theorem qji:zk prog 40 [] (.tup [zO xj,qZ xG]):=by
 have o:=uU jD zo QS 0 1 0;have p:=uU jD vG nF 0 1 0;have d1:=QA 1500000;have x:=qck ⟨3,1500000,qH⟩;have q:=qk8 1;have u:=qk8 3;have w:=qk8 2;have A:=uK 4;have C:=uK 7;have y:=qnx nA;have z:=qnx nB;have d2:=QA 2250000;have P:zg prog 72=true:=by kernel_rfl
 refine Ok.of_exM [(7,1)] Ty.mixed func40 rfl (by simp) (by rfl) fun F Q D=>?_;refine qb fun G O=>?_;refine qa ?_;refine fun H a=>?_;replace a:=zS a;try simp only [Nb] at a
 refine qa ?_;refine fun R=>?_;refine fun I d=>?_;replace d:=zS d;try simp only [Nb] at d
 refine qa ?_;refine fun S=>?_;refine fun J e=>?_;replace e:=zS e;try simp only [Nb] at e
 refine qi _ o ?_;refine qa ?_;refine fun K h=>?_;replace h:=zS h;try simp only [Nb] at h
 refine qi _ p ?_;refine qa ?_;refine fun L j=>?_;replace j:=zS j;try simp only [Nb] at j
 refine qa ?_;refine fun T=>?_;refine fun M k=>?_;replace k:=zS k;try simp only [Nb] at k
 refine qa ?_;refine qt _ d1.v ?_;refine qa ?_;refine qt _ x.v ?_;simp only [↓rA,rU,qoq,simprocAttr];refine fun N n=>?_;replace n:=zS n;try simp only [Nb] at n
 refine qi _ q ?_;refine qi _ A ?_;refine qi _ y ?_;refine qa ?_;refine fun U=>?_;refine qo _ u ?_;refine qi _ d2 ?_;refine qa ?_;refine fun W=>?_;refine qo _ w ?_;refine qi _ C ?_;refine qi _ z ?_;refine qa ?_;refine fun X Y=>?_;refine fun Z y9=>?_;refine⟨_,[],[],jf (.cons (wc (.cons (Le.lists ?_) (.cons (Le.lists ?_) (.cons (Le.nil 18) (.cons (Le.nil 18) .nil))))) (.cons (Le.lists ?_) .nil)),zn _,zn _,rfl,rfl,rfl⟩
 all_goals repeat' first | exact yf.nil | exact VO.nil | exact Le.refl _ | exact Le.nil _ | refine VO.cons ?_ ?_ | refine yf.cons ?_ ?_ | refine Le.lists ?_
theorem qCy:x5 (1:Int):=by unfold x5;decide
theorem ZR (h:Hd) (hu:h.unit=[]) (a:x5 h.val.n/\x5 h.param):uh (.mk h []):=.mk h [] (by simp_all) (KM _) a (fun x d=>by cases d)
theorem qn8 (s:Str):uh (Ww s):=ZR _ rfl ⟨yZ,yZ⟩
theorem qcy (v:Val) (h:x5 v.n):uh (Xy v):=ZR _ rfl ⟨h,yZ⟩
variable {p wk ws:Int}
theorem Y2 (op tab fld:Str) (d:x5 p):uh (jy op tab fld p wk ws):=.mk _ _ (KM _) (by unfold Go.Proofs.YtkdgbjhbpbgdeaaGreatDoor.big;simp) ⟨yZ,d⟩ (fun x a=>by
 rcases xb.1 a with rfl | a
 ·exact qn8 _
 ·rw [kl.1 a];exact qcy _ qCy)
theorem qB1 (fld:Str):qF3 xj xG [Ww fld,Xy ⟨1,1,qH⟩] where
 tabs:=by decide
 flds tb h:=by
  unfold Go.Proofs.YtkdgbjhbpbgdeaaGreatDoor.big;rcases xb.1 h with rfl | h
  ·decide
  simp_all
 few:=by decide
 row r h:=by
  have q:∀ n:Int,(n=4∨n=0∨n=2250000∨n=7)->x5 n:=fun n h=>by unfold x5;omega
  unfold qdv Go.Proofs.YtkdgbjhbpbgdeaaGreatDoor.big;simp only [xG,xb,y8,or_false] at h;rcases h with rfl | rfl | rfl
  ·simp_all
  ·simp_all
  simp_all
 args x a:=by
  rcases xb.1 a with rfl | a
  ·exact qn8 _
  ·rw [kl.1 a];exact qcy _ qCy
theorem KG (op tab fld:Str) (a:¬ wk=4) (d:0<=p/\p<=1073741824):Jj xj xG (jy op tab fld p wk ws) :=
 .mk _ _ (fun _=>⟨.inl a,qB1 fld,by show x5 p;unfold x5;omega⟩) (fun h=>absurd rfl h)
theorem qe1 (op tab fld:Str) :Ub (jy op tab fld p wk ws)=[]:=by rfl
theorem qcg {op tab fld m:Str} (h:m ∈ Ub (jy op tab fld p wk ws)):False:=by rw [qe1] at h;cases h
abbrev NS (n:Str):Prop:=n=uW∨n=Kn
abbrev fvS (t:Int):Str->Str->Val:=XC xj xG t 1
abbrev fiS (t:Int):Str->Str->FID->Prop:=feaI xj xG t 1
theorem JI {n:Str} {f:Ftr} (h:NS n) (a:xl xj.features n=some f):(f=qye∨f=qyd):=by
 rcases h with rfl | rfl
 ·rw [show xl xj.features uW=some qye by rfl] at a;simp_all
 ·rw [show xl xj.features Kn=some qyd by rfl] at a;simp_all
variable {t:Int}
theorem qvm (h:0<=t/\t<=1099511627776):VW xj xG t NS (fun _=>0) (fvS t) (fiS t) where
 sol:={
  ref:=fun n e f a=>by
   rcases JI e a with rfl | rfl
   ·exact⟨fun m d=>(qcg (op:=jD) (tab:=zo) (fld:=QS) (p:=0) (wk:=1) (ws:=0) d).elim,KG _ _ _ (by decide) (by decide),Y2 _ _ _ yZ⟩
   ·exact⟨fun m d=>(qcg (op:=jD) (tab:=vG) (fld:=nF) (p:=0) (wk:=1) (ws:=0) d).elim,KG _ _ _ (by decide) (by decide),Y2 _ _ _ yZ⟩
  val:=fun n e key=>by
   show XC xj xG t 1 n key=_;unfold XC;unfold xl;cases a:xj.features.find? fun f=>decide (f.name=n) with
   | none=>rfl
   | some f =>
    simp only [];rcases JI e a with rfl | rfl
    ·rfl
    rfl
  ids:=fun n e key i=>by
   show feaI xj xG t 1 n key i↔_;unfold feaI;unfold xl;cases a:xj.features.find? fun f=>decide (f.name=n) with
   | none=>rfl
   | some f =>
    simp only [];rcases JI e a with rfl | rfl
    ·rfl
    rfl
  inw:=fun n e key=>by
   show x5 (XC xj xG t 1 n key).n;unfold XC;cases a:xj.features.find? fun f=>decide (f.name=n) with
   | none=>exact yZ
   | some f =>
    simp only [];rcases JI e a with rfl | rfl
    ·exact qlp _ (fun m d=>(qcg (op:=jD) (tab:=zo) (fld:=QS) (p:=0) (wk:=1) (ws:=0) d).elim) (Y2 _ _ _ yZ) (KG _ _ _ (by decide) (by decide)) _
    ·exact qlp _ (fun m d=>(qcg (op:=jD) (tab:=vG) (fld:=nF) (p:=0) (wk:=1) (ws:=0) d).elim) (Y2 _ _ _ yZ) (KG _ _ _ (by decide) (by decide)) _ }
 feats:=by decide
 tabs:=by decide
 tick:=h
theorem Wx (op tab fld:Str) (e:¬ wk=4) (d:0<=p/\p<=1073741824):VS xj xG NS (fun _=>0) 1 (jy op tab fld p wk ws) :=
 ⟨Y2 _ _ _ (by unfold x5;omega),KG _ _ _ e d,fun m a=>by rw [qe1] at a;cases a⟩
theorem qK8:Ub xBody=[Kn,uW]:=rfl
theorem qLw:uh xBody:=.mk _ _ (KM _) (by decide) ⟨yZ,yZ⟩ (fun x a=>by
 rcases xb.1 a with rfl | a
 ·exact .mk _ _ (KM _) (by decide) ⟨yZ,yZ⟩ (fun y d=>by rw [kl.1 d];exact ZR _ rfl ⟨yZ,yZ⟩)
 ·rw [kl.1 a];exact qcy _ (by unfold x5;decide))
theorem qNm:Jj xj xG xBody:=.mk _ _ (fun h=>absurd h (by decide)) (fun _ x a=>by
 rcases xb.1 a with rfl | a
 ·exact .mk _ _ (fun h=>absurd h (by decide)) (fun _ y e=>by rw [kl.1 e];exact .mk _ _ (fun h=>absurd h (by decide)) (fun _ z d=>by cases d))
 ·rw [kl.1 a];exact .mk _ _ (fun h=>absurd h (by decide)) (fun _ z d=>by cases d))
theorem exX:VS xj xG NS (fun _=>0) 1 xBody:=⟨qLw,qNm,fun m a=>by
 rw [qK8] at a;rcases xb.1 a with rfl | a
 ·decide
 ·rw [kl.1 a];decide⟩
theorem v14:jt xj xG 14 (fvS 14) xBody nU=⟨3,2250000,qH⟩:=by rfl
theorem v13:jt xj xG 13 (fvS 13) xBody nU=⟨3,1500000,qH⟩:=by rfl
theorem qM0:jt xj xG 13 (fvS 13) (jy JE zo nN 0 1 0) nU=⟨2,4,qH⟩:=by rfl
theorem qMz:jt xj xG 14 (fvS 14) (jy JE zo nN 0 1 0) nU=⟨2,11,qH⟩:=by rfl
theorem qM2:jt xj xG 14 (fvS 14) (jy QZ zo nN 0 2 4) nU=⟨3,7000000,qH⟩:=by rfl
theorem qM3:jt xj xG 13 (fvS 13) (jy QZ zo nN 0 2 4) nU=⟨3,4000000,qH⟩:=by rfl
theorem qM4:jt xj xG 14 (fvS 14) (jy XN zo nN 4 1 0) nU=⟨3,9000000,qH⟩:=by rfl
theorem qM1:jt xj xG 14 (fvS 14) (jy QG zo nN 500 1 0) nU=⟨2,4,qH⟩:=by rfl
variable {c:Cat} {key:Str} {i:FID}
theorem KS {rows:List Rw} {l:List E} :VF c rows t h l key i↔i ∈ (if (ud c h.table).isSome=true then (zW c rows h l key t).map (·.id) else []):=by
 unfold VF;cases ud c h.table with
 | none=>simp
 | some a=>simp
theorem qG0:fiS t uW nU i↔VF xj xG t (um jD zo 0 1 0) [Ww QS,Xy ⟨1,1,qH⟩] nU i:=by
 rfl
theorem qGz (k:Str) :fiS t Kn k i↔VF xj xG t (um jD vG 0 1 0) [Ww nF,Xy ⟨1,1,qH⟩] k i:=by
 rfl
theorem qG3 (n:0<=t/\t<=1099511627776) {s:Str} (e:fvS t uW nU=⟨5,0,s⟩) (i:FID):W8 xj xG t (fvS t) (fiS t) xBody nU i↔(fiS t uW nU i∨fiS t Kn s i):=by
 have d:∀ j,W8 xj xG t (fvS t) (fiS t) (Xy ⟨3,1500000,qH⟩) nU j↔False:=fun j=>by
  rfl
 have h:∀ j,W8 xj xG t (fvS t) (fiS t) (.mk { vb 3 with name:=uW } []) nU j↔fiS t uW nU j:=fun j=>by
  rfl
 have k:jt xj xG t (fvS t) (.mk { vb 3 with name:=uW } []) nU=⟨5,0,s⟩:=by
  rw [qc1,qc2 rfl];exact e
 have a:∀ j,W8 xj xG t (fvS t) (fiS t) (.mk { vb 4 with name:=Kn } [.mk { vb 3 with name:=uW } []]) nU j↔(fiS t uW nU j∨fiS t Kn s j):=fun j=>by
  rw [qk7,Ku rfl];simp_all
 rw [qk7,qn2 (by decide) (by decide) (by decide) (by decide)];simp only [z7,Jx,List.length_cons,List.length_nil,qPl,qQi,a,d];simp [xV]
theorem qNe {a b c:FID}:i ∈ [a,b,c]↔(i ∈ [a,b]∨i ∈ [c]):=by simp [or_assoc]
abbrev l14:List FID:=[⟨nS,1⟩,⟨nS,2⟩,⟨nS,3⟩]
abbrev l13:List FID:=[⟨nS,1⟩]
theorem m14 (i:FID):i ∈ l14↔W8 xj xG 14 (fvS 14) (fiS 14) xBody nU i:=by
 rw [qG3 (s:=nB) (by decide) (by rfl),qG0,qGz,KS,KS];rw [show (if (ud xj (um jD zo 0 1 0).table).isSome=true then (zW xj xG (um jD zo 0 1 0) [Ww QS,Xy ⟨1,1,qH⟩] nU 14).map (·.id) else [])=[⟨nS,1⟩,⟨nS,2⟩] by rfl,show (if (ud xj (um jD vG 0 1 0).table).isSome=true then (zW xj xG (um jD vG 0 1 0) [Ww nF,Xy ⟨1,1,qH⟩] nB 14).map (·.id) else [])=[⟨nS,3⟩] by rfl];exact qNe
theorem m13 (i:FID):i ∈ l13↔W8 xj xG 13 (fvS 13) (fiS 13) xBody nU i:=by
 rw [qG3 (s:=nA) (by decide) (by rfl),qG0,qGz,KS,KS];rw [show (if (ud xj (um jD zo 0 1 0).table).isSome=true then (zW xj xG (um jD zo 0 1 0) [Ww QS,Xy ⟨1,1,qH⟩] nU 13).map (·.id) else [])=[⟨nS,1⟩] by rfl,show (if (ud xj (um jD vG 0 1 0).table).isSome=true then (zW xj xG (um jD vG 0 1 0) [Ww nF,Xy ⟨1,1,qH⟩] nA 13).map (·.id) else [])=[] by rfl];simp
theorem o14:qou l14:=by decide
theorem o13:qou l13:=by simp
abbrev cOv (op:Str) (p wk ws:Int):List V:=Go.Lo.cH (um op zo p wk ws) (kI [Ww nN,Xy ⟨1,1,qH⟩])
theorem qgs (c:Cat) (R:List Rw) (C:2 < c.features.length) (G:zk prog 40 [] (.tup [zO c,qZ R]))
  (f14:zk prog 42 [zO c,qZ R,vstr nX,vstr nU,vint 14] (.tup [.agg (qS ⟨3,2250000,qH⟩),vint 0])) (f13:zk prog 42 [zO c,qZ R,vstr nX,vstr nU,vint 13] (.tup [.agg (qS ⟨3,1500000,qH⟩),vint 0]))
  (q:zk prog 43 [zO c,qZ R,vE c.features[2].body,vstr nU,vint 14] (qd9 l14)) (p:zk prog 43 [zO c,qZ R,vE c.features[2].body,vstr nU,vint 13] (qd9 l13))
  (M:zk prog 11 [zO c,qZ R,.agg (cOv JE 0 1 0),vstr nU,vint 13] (.agg (qS ⟨2,4,qH⟩))) (N:zk prog 11 [zO c,qZ R,.agg (cOv JE 0 1 0),vstr nU,vint 14] (.agg (qS ⟨2,11,qH⟩)))
  (m14:zk prog 11 [zO c,qZ R,.agg (cOv QZ 0 2 4),vstr nU,vint 14] (.agg (qS ⟨3,7000000,qH⟩))) (m13:zk prog 11 [zO c,qZ R,.agg (cOv QZ 0 2 4),vstr nU,vint 13] (.agg (qS ⟨3,4000000,qH⟩)))
  (d14:zk prog 11 [zO c,qZ R,.agg (cOv XN 4 1 0),vstr nU,vint 14] (.agg (qS ⟨3,9000000,qH⟩))) (L:zk prog 11 [zO c,qZ R,.agg (cOv QG 500 1 0),vstr nU,vint 14] (.agg (qS ⟨2,4,qH⟩))) :
  zk prog 17 [] (qq true):=by
 have H:=uU JE zo nN 0 1 0;have I:=uU QZ zo nN 0 2 4;have J:=uU XN zo nN 4 1 0;have K:=uU QG zo nN 500 1 0;have A:(2:Int) < (c.features.length:Int):=by omega
 have W:((3:Nat):Int)=3:=rfl;have U:((1:Nat):Int)=1:=rfl;rw [vE,qY] at q p;refine oE func17 fun F w0 P=>?_;refine qi _ G ?_;refine qa ?_;refine fun o d=>?_;replace d:=zS d;try simp only [Nb] at d
 refine qa ?_;refine fun u e=>?_;replace e:=zS e;try simp only [Nb] at e
 have a:=aI d e;refine qi _ H ?_;refine qa ?_;refine fun w h=>?_;replace h:=zS h;try simp only [Nb] at h
 have a:=aI a h;refine qi _ I ?_;refine qa ?_;refine fun x j=>?_;replace j:=zS j;try simp only [Nb] at j
 have a:=aI a j;refine qi _ f14 ?_;refine qa ?_;refine fun y k=>?_;replace k:=zS k;try simp only [Nb] at k
 have a:=aI a k;refine qi _ f13 ?_;refine qa ?_;refine fun z n=>?_;replace n:=zS n;try simp only [Nb] at n
 have a:=aI a n;simp only [↓rA,rB,simprocAttr,a,A,zz,qI _ _ _ C,qs,tU];refine qt _ q.v ?_;simp only [↓rA,rB,simprocAttr,a,A,zz,qI _ _ _ C,qs,tU];refine qt _ p.v ?_;simp only [↓qJ,↓qbn,↓zA,zw,qu,kM,wB,wz,wO,jd,wT,QJ,kO,WQ,eq_self,z7,Jx,qL1,qNk,wl,List.toList_toArray,results17];refine qox (fun S=>S.boxes=[(z,.c (qS ⟨3,1500000,qH⟩)),(y,.c (qS ⟨3,2250000,qH⟩)),(x,.c (cOv QZ 0 2 4)),(w,.c (cOv JE 0 1 0)),(u,.c [vint 1,vint 0]),(o,.c (qT c))]/\S.rows=[]/\S.σ 1=ptr o/\S.σ 2=qZ R/\S.σ 3=ptr u/\S.σ 4=ptr w/\S.σ 5=ptr x/\S.σ 6=ptr y/\S.σ 7=vint 0/\S.σ 8=ptr z/\S.σ 9=vint 0/\S.σ 10=qd9 l14/\S.σ 11=qd9 l13) ?_ fun S ⟨Q,T,X,s2,s3,s4,s5,s6,s7,s8,s9,Y,Z⟩=>?_
 ·exact qA
 have d1:=QA 2250000;have d2:=QA 1500000;have d3:=QA 7000000;have d4:=QA 4000000;have d5:=QA 9000000;have D:=uK 4;have O:=uK 11;refine qa ?_;refine qt _ d1.v ?_;refine qa ?_;refine qt _ d2.v ?_;refine qi _ M ?_;refine qi _ D ?_;refine qi _ N ?_;refine qi _ O ?_;refine qi _ m14 ?_;refine qi _ d3 ?_;refine qi _ m13 ?_;refine qi _ d4 ?_;refine qa ?_;refine qt _ J.v ?_;refine qa ?_;refine qt _ d14.v ?_;refine qa ?_;refine qt _ d5.v ?_;refine qa ?_;refine qt _ K.v ?_;refine qa ?_;refine qt _ L.v ?_;refine qa ?_;refine qt _ D.v ?_;exact qe
theorem qgt:zk prog 17 [] (qq true):=by
 have a:=qvm (t:=14) (by decide);have d:=qvm (t:=13) (by decide);have k:xl xj.features nX=some fX:=by kernel_rfl
 have f14:=qgp a k exX nU;have f13:=qgp d k exX nU;have o:jt xj xG 14 (fvS 14) fX.body nU=⟨3,2250000,qH⟩:=v14;have n:jt xj xG 13 (fvS 13) fX.body nU=⟨3,1500000,qH⟩:=v13;rw [o] at f14;rw [n] at f13;have h:=yC (qht d (Wx JE zo nN (p:=0) (wk:=1) (ws:=0) (by decide) (by decide)) nU);have j:=yC (qht a (Wx JE zo nN (p:=0) (wk:=1) (ws:=0) (by decide) (by decide)) nU);have m14:=yC (qht a (Wx QZ zo nN (p:=0) (wk:=2) (ws:=4) (by decide) (by decide)) nU);have m13:=yC (qht d (Wx QZ zo nN (p:=0) (wk:=2) (ws:=4) (by decide) (by decide)) nU);have d14:=yC (qht a (Wx XN zo nN (p:=4) (wk:=1) (ws:=0) (by decide) (by decide)) nU);have e:=yC (qht a (Wx QG zo nN (p:=500) (wk:=1) (ws:=0) (by decide) (by decide)) nU);rw [qM0] at h;rw [qMz] at j;rw [qM2] at m14;rw [qM3] at m13;rw [qM4] at d14;rw [qM1] at e;rw [vE,wI] at h j m14 m13 d14 e;exact qgs xj xG (by decide) qji f14 f13 (qbd (qht a exX nU) l14 o14 Go.Proofs.YtkdgbjhbpbgdeaaGreatDoor.m14 (by decide)) (qbd (qht d exX nU) l13 o13 Go.Proofs.YtkdgbjhbpbgdeaaGreatDoor.m13 (by decide)) h j m14 m13 d14 e
theorem qzv (l:List yg) (t:Int):∀ i b,Q6 l t i=some b->b.last ∈ l/\Qv t b.last=true/\xF b.last.fact=i:=by
 unfold Q6
 suffices h:∀ (m:List yg) (f:FID->Option Bas),(∀ x ∈ m,x ∈ l)->(∀ i b,f i=some b->b.last ∈ l/\Qv t b.last=true/\xF b.last.fact=i)->∀ i b,m.foldl (jp t) f i=some b->b.last ∈ l/\Qv t b.last=true/\xF b.last.fact=i from
  h l _ (fun _ h=>h) fun i b h=>by cases h
 intro m
 induction m with
 | nil=>simp
 | cons x m o =>
  intro f d a;refine o _ (fun y n=>d y (z8 _ n)) fun i b h=>?_;unfold jp at h;split at h
  ·rename_i k;unfold Z0 at h;split at h
   ·rename_i e;subst e;cases h;cases j:f (xF x.fact) with
    | none=>exact⟨d x x6,k,rfl⟩
    | some b =>
     obtain⟨p,q,u⟩:=a _ _ j;simp only [xy];split
     ·simp_all
     simp_all
   ·exact a i b h
  ·exact a i b h
theorem qyo {l:List yg} {r:Rw} (h:r ∈ Zv l t):∃ x ∈ l,Qv t x=true/\r.fields=x.fact.fields/\r.key=x.fact.key/\r.table=x.fact.table:=by
 obtain⟨b,k,a⟩:=((qxm l t).mem r).1 h;obtain⟨d,j,_⟩:=qzv l t _ _ k;unfold jH at a;split at a
 ·have e:=KL a;exact⟨b.last,d,j,(congrArg Rw.fields e).symm,(congrArg Rw.key e).symm,(congrArg Rw.table e).symm⟩
 simp_all
theorem qmj (l:List yg) (t:Int):∃ g cl,kd id (Q6 l t) g cl/\g.length<=l.length:=by
 unfold Q6
 suffices h:∀ (l:List yg) (f:FID->Option Bas) (n:Nat),(∃ g cl,kd id f g cl/\g.length<=n)->∃ g cl,kd id (l.foldl (jp t) f) g cl/\g.length<=n+l.length by
  have:=h l _ 0 ⟨[],0,kd.nil,w3 _⟩;simp_all
 intro l
 induction l with
 | nil=>simp
 | cons x l o =>
  intro f n ⟨g,cl,h,u⟩;have k:∃ g cl,kd id (jp t f x) g cl/\g.length<=n+1:=by
   unfold jp;split
   ·cases a:zy g (xF x.fact) with
    | none=>exact⟨_,_,h.new a (xy (f (xF x.fact)) x),by simp_all⟩
    | some p=>exact⟨_,_,h.old a (xy (f (xF x.fact)) x),by rw [Kp];omega⟩
   ·exact⟨g,cl,h,by omega⟩
  obtain⟨e,d,j,q⟩:=o _ (n+1) k;exact⟨e,d,j,by simp only [List.length_cons];omega⟩
theorem qyp (l:List yg) (t:Int):(Zv l t).length<=l.length:=by
 obtain⟨g,u,n,o⟩:=qmj l t;have q:((g.filterMap fun p=>jH (jg l) p.2).mergeSort fun a b=>decide (cmpRow a b<=0)).Pairwise fun x y=>¬ cmpRow y x < 0:=by
  have:=qRm (le:=fun a b:Rw=>decide (cmpRow a b<=0)) (fun a b c j k=>by
   simp only [decide_eq_true_eq] at *;exact kT.trans a b c j k) (fun a b=>by
   have:=kT.anti a b;by_cases h:cmpRow a b<=0
   ·simp [h]
   ·have:cmpRow b a<=0:=by omega
    simp_all) (g.filterMap fun p=>jH (jg l) p.2)
  refine this.imp fun {a b} h=>?_;have w:cmpRow a b<=0:=by simpa using h
  have:=kT.anti a b;omega
 have d:=qQh (g.filterMap fun p=>jH (jg l) p.2) fun a b=>decide (cmpRow a b<=0);have e:=(qxm l t).unique (Kt n d q);rw [e,d.length_eq];exact km (qRl _ _) o
theorem qlk {f:Fct} (h:xz f=true):1<=f.seq:=by
 unfold xz at h;simp_all
theorem qvr {l:List yg} (d:∀ e ∈ l,VR e) (j:∀ e ∈ l,∀ v ∈ e.fact.fields,x5 v.n) {r:Rw} (h:r ∈ Zv l t):qdv r:=by
 obtain⟨x,a,_,e,_⟩:=qyo h;unfold qdv;rw [e];exact⟨(d x a).fld,j x a⟩
open Ses
theorem qV3 {l:List yg} {r:Rw} (h:r ∈ Zv l t):∃ x ∈ l,Qv t x=true/\r.event=x.fact.event:=by
 obtain⟨b,d,a⟩:=((qxm l t).mem r).1 h;obtain⟨e,j,_⟩:=qzv l t _ _ d;unfold jH at a;split at a
 ·exact⟨b.last,e,j,(congrArg Rw.event (KL a)).symm⟩
 ·cases a
theorem qUo {f:Fct} (h:xz f=true):tick f.event:=by
 unfold xz at h;simp only [k7] at h;have h:=h.2;split at h
 ·simp only [k7,decide_eq_true_eq] at h;rw [h.2.2.1];decide
 ·simp only [k7,decide_eq_true_eq] at h;exact h.2
theorem qUt {a b:Rw} (h:cmpRow a b < 0):a.event<=b.event:=by
 refine Int.not_lt.1 fun d=>?_;unfold cmpRow orL cmpI at h;simp [Int.not_lt.2 (qQb d),d] at h
theorem qVm {l:List yg} (e:∀ x ∈ l,Qv t x=true->xz x.fact=true):Srt (Zv l t) :=
 ⟨(
   qxm l t).sorted.imp fun h _ _=>qUt h,fun r j=>by
   obtain⟨x,k,a,d⟩:=qV3 j;rw [d];exact qUo (e x k a)⟩
variable {α:Type}
theorem qWl {A D:List α} {z:α} {j:Nat} (h:j < A.length):(A++D).getD j z=A.getD j z:=by
 simp [List.getD,qOw h]
theorem qw6 {A D:List α} {z:α} (j:Nat):(A++D).getD (A.length+j) z=D.getD j z:=by
 simp [List.getD,qPq (qQy _ _)]
theorem qTg {A:List α} {z:α} {j:Nat} (h:j < A.length):A.getD j z ∈ A:=by
 simp [List.getD,h]
theorem qR9 {A D:List Int} {g:Int} (F:0 < D.length) (w:qSw D g 0 D.length) (q:∀ x ∈ A,¬ D.getD 0 0 - x<=g) (z:tick t) (G:1<=g/\g<=1099511627776) :
  qK6 (A++D) g t=if t - D.getD (D.length - 1) 0<=g then some (D.getD 0 0,D.getD (D.length - 1) 0) else none:=by
 have a:(A++D).length=A.length+D.length:=zr;have u:qn9 (A++D) g A.length:=by
  by_cases o:A.length=0
  ·exact .inl o
  ·refine .inr (.inr ?_);rw [show A.length=A.length+0 from rfl,qw6,qRw,qWl (by omega)];exact q _ (qTg (by omega))
 have H:qSw (A++D) g A.length (A++D).length:=by
  intro j C p;rw [a] at p;obtain⟨k,rfl⟩:∃ k,j=A.length+k:=⟨j - A.length,by omega⟩;rw [qw6,show A.length+k - 1=A.length+(k - 1) by omega,qw6];exact w k (by omega) (by omega)
 have e:=qov u ((A++D).length - 1) (by omega) (by omega) (by rwa [Nat.sub_add_cancel (by omega)]);have d:(A++D).getD ((A++D).length - 1) 0=D.getD (D.length - 1) 0:=by
  rw [a,show A.length+D.length - 1=A.length+(D.length - 1) by omega,qw6]
 have n:(A++D).getD A.length 0=D.getD 0 0:=by
  rw [show A.length=A.length+0 from rfl,qw6]
 have y:A++D ≠ []:=fun h=>by
  have:=congrArg List.length h;rw [a,qPk] at this;omega
 unfold qK6;rw [if_neg,e,d,n];rintro(h | h | h | h)
 ·exact y h
 ·omega
 ·omega
 ·rw [(qcw t).2 z] at h;cases h
theorem qU7 {l:List Int} (u:l.Pairwise (·<=·)) {g:Int} (y:0 < l.length) :
  ∃ A D,l=A++D/\0 < D.length/\qSw D g 0 D.length/\∀ x ∈ A,¬ D.getD 0 0 - x<=g:=by
 induction l with
 | nil=>cases y
 | cons a r F =>
  rcases qOz r.length with o | o
  ·obtain rfl:=qMy.1 o;exact⟨[],[a],rfl,by simp,fun j n h=>by simp at h;omega,fun x d=>by cases d⟩
  ·obtain⟨A,D,e,n,h,p⟩:=F (vt.1 u).2 o;subst e;have z:=(vt.1 u).1;cases A with
   | cons b w =>
    refine⟨a::b::w,D,rfl,n,h,fun x d=>?_⟩;rcases xb.1 d with rfl | d
    ·have:=z b (by simp);have:=p b (by simp);omega
    ·exact p x d
   | nil =>
    simp only [List.nil_append] at *;by_cases q:D.getD 0 0 - a<=g
    ·refine⟨[],a::D,rfl,by simp,?_,fun x d=>by cases d⟩;intro j G C;obtain⟨k,rfl⟩:∃ k,j=k+1:=⟨j - 1,by omega⟩;simp only [List.length_cons] at C;rw [qQi,qQn];cases k with
     | zero=>simpa using q
     | succ k=>rw [qQi];exact h (k+1) (by omega) (by omega)
    ·refine⟨[a],D,rfl,n,h,fun x d=>?_⟩;rw [kl.1 d];exact q
theorem qSo (rows:List Rw) (keep:Rw->Bool) (l:List E) :Wo c (rows.filter keep) h l key t=(Wo c rows h l key t).filter keep:=by
 rw [YR,YR];split
 ·rw [qO2,qO2];exact qN6 fun x _=>Bool.and_comm _ _
 ·rfl
theorem qT2 {l:List α} {p keep:α->Bool} (h:∀ x ∈ l.filter p,keep x=true):(l.filter keep).filter p=l.filter p:=by
 rw [qO2];refine qN6 fun x d=>?_;cases a:p x
 ·simp
 ·simp [h x (qA6.2 ⟨d,a⟩)]
theorem qTb {l:List Int} (j:l.Pairwise (·<=·)) {x:Int} (k:x ∈ l):x<=l.getD (l.length - 1) 0:=by
 obtain⟨i,d,rfl⟩:=qOk k;have a:l.length - 1 < l.length:=by omega
 have e:l.getD (l.length - 1) 0=l[l.length - 1]:=by simp [List.getD,a]
 rw [e];rcases qNb i (l.length - 1) with h | h
 ·exact qRg.1 j i _ d a h
 ·have:i=l.length - 1:=by omega
  subst this;exact Int.le_refl _
theorem qUp {l:List Int} (e:l.Pairwise (·<=·)) {x:Int} (d:x ∈ l):l.getD 0 0<=x:=by
 cases l with
 | nil=>cases d
 | cons a r =>
  rcases xb.1 d with rfl | d
  ·exact Int.le_refl _
  ·exact(vt.1 e).1 x d
theorem qU6 {E:List Rw} (I:E.Pairwise fun a b=>a.event<=b.event) (keep:Rw->Bool) (g t:Int)
  (P:∀ a z,qK6 (E.map (·.event)) g t=some (a,z)->∀ r ∈ E,a<=r.event->r.event<=z->keep r=true) :
  qK6 ((E.filter keep).map (·.event)) g t=qK6 (E.map (·.event)) g t:=by
 by_cases o:¬ tick t∨g < 1∨1099511627776 < g
 ·rw [qd4 (.inr o),qd4 (.inr o)]
 have M:tick t:=Classical.byContradiction fun h=>o (.inl h);have G:1<=g/\g<=1099511627776:=⟨Int.not_lt.1 fun h=>o (.inr (.inl h)),Int.not_lt.1 fun h=>o (.inr (.inr h))⟩;rcases qOz E.length with p | p
 ·obtain rfl:=qMy.1 p;rfl
 have K:(E.map (·.event)).Pairwise (·<=·):=List.pairwise_map.2 I;obtain⟨A,D,e,w,y,C⟩:=qU7 K (g:=g) (by simpa using p);have k:=qR9 w y C M G;rw [<-e] at k;obtain⟨n,d,rfl,N,O⟩:=List.map_eq_append_iff.1 e;subst N O;have J:(d.map (·.event)).Pairwise (·<=·):=List.pairwise_map.2 (qMl.1 I).2.1;by_cases u:t - (d.map (·.event)).getD ((d.map (·.event)).length - 1) 0<=g
 ·rw [if_pos u] at k;have Q:d.filter keep=d:=qLv.2 fun r j=>P _ _ k r (z6.2 (.inr j)) (qUp J (x9.2 ⟨r,j,rfl⟩)) (qTb J (x9.2 ⟨r,j,rfl⟩));rw [k,qQo,Q,k8,qR9 w y (fun x q=>by
   obtain⟨r,j,rfl⟩:=x9.1 q;exact C _ (x9.2 ⟨r,(qA6.1 j).1,rfl⟩)) M G,if_pos u]
 ·rw [if_neg u] at k;rw [k];have R:∀ x ∈ ((n++d).map (·.event)),x<=(d.map (·.event)).getD ((d.map (·.event)).length - 1) 0:=fun x q=>by
   have:=qTb K q;rw [e,zr,show (n.map (·.event)).length+(d.map (·.event)).length - 1=(n.map (·.event)).length+((d.map (·.event)).length - 1) by omega,qw6] at this;exact this
  generalize F:((n++d).filter keep).map (·.event)=L;unfold qK6;split
  ·rfl
  ·rename_i T;have U:0 < L.length:=List.length_pos_iff.2 fun h=>T (.inl h);have S:L.getD (L.length - 1) 0 ∈ (n++d).map (·.event):=by
    have:L.getD (L.length - 1) 0 ∈ L:=qTg (by omega);rw [<-F] at this;obtain⟨r,j,H⟩:=x9.1 this;rw [F] at H;exact H▸x9.2 ⟨r,(qA6.1 j).1,rfl⟩
   have:=R _ S;rw [if_neg (by omega)]
theorem qTt {rows:List Rw} (n:Srt rows) {l:List E} {keep:Rw->Bool} (d:∀ r ∈ zW c rows h l key t,keep r=true) :
  zW c (rows.filter keep) h l key t=zW c rows h l key t:=by
 have o:qni h ((Wo c (rows.filter keep) h l key t).map (·.event)) t=qni h ((Wo c rows h l key t).map (·.event)) t:=by
  unfold qni;split
  ·rw [qSo];refine qU6 (qud n c h l key t) keep _ _ fun a z e r k p q=>d r ?_;unfold zW qni;rename_i j;rw [if_pos j,e];exact qA6.2 ⟨k,by simp;omega⟩
  ·rfl
 unfold zW at d ⊢;rw [o,qSo];split
 ·rename_i e;rw [e] at d;exact qT2 d
 ·rfl
theorem qV8 {rows:List Rw} {l:List E} (e:Srt rows) (K:FID->Bool) (a:∀ i,VF c rows t h l key i->K i=true) :
  VE c (rows.filter fun r=>K r.id) t h l key=VE c rows t h l key/\∀ i,VF c (rows.filter fun r=>K r.id) t h l key i↔VF c rows t h l key i:=by
 unfold VE VF at *;cases j:ud c h.table with
 | none=>exact⟨by trivial,fun i=>by simp⟩
 | some n =>
  have k:=qTt (keep:=fun r=>K r.id) e fun r d=>a r.id ⟨n,j,r,d,rfl⟩;simp only [k];exact⟨trivial,fun i=>by simp⟩
theorem qW9 {rows:List Rw} {fv fv':Str->Str->Val} {fi fi':Str->Str->FID->Prop} (P:Srt rows) (K:FID->Bool):∀ x:E,
  (∀ m ∈ Ub x,∀ key,(∀ i,fi m key i->K i=true)->fv' m key=fv m key/\∀ i,fi' m key i↔fi m key i) ->
  ∀ key,(∀ i,W8 c rows t fv fi x key i->K i=true) ->
   jt c (rows.filter fun r=>K r.id) t fv' x key=jt c rows t fv x key/\∀ i,W8 c (rows.filter fun r=>K r.id) t fv' fi' x key i↔W8 c rows t fv fi x key i:=by
 intro x
 induction x using E.ind with
 | h hd l M =>
  intro A key n;rw [qb7] at A;simp only [qc1,qk7] at n ⊢;by_cases D:hd.kind=1
  ·rw [qod D,qod D];exact⟨rfl,fun i=>⟨fun h=>absurd h (qDi D i),fun h=>absurd h (qDi D i)⟩⟩
  by_cases C:hd.kind=3
  ·rw [if_neg D,if_pos C] at A;rw [qc2 C,qc2 C];obtain⟨u,o⟩:=A hd.name (.head _) key fun i h=>n i ((qDj C i).2 h);exact⟨u,fun i=>by rw [qDj C,qDj C];exact o i⟩
  by_cases F:hd.kind=5
  ·rw [qc3 F,qc3 F];obtain⟨u,o⟩:=qV8 (c:=c) (rows:=rows) (t:=t) (h:=hd) (l:=l) (key:=key) P K fun i h=>n i ((qn3 F i).2 h);exact⟨u,fun i=>by rw [qn3 F,qn3 F];exact o i⟩
  rw [if_neg D,if_neg C,if_neg F] at A;by_cases G:hd.kind=4
  ·rw [if_pos G] at A;simp only [KH G,Ku G,zz] at n ⊢;by_cases j:l.length=1
   ·obtain⟨y,rfl⟩:=List.length_eq_one_iff.1 j;simp only [z7,Jx,qPl,List.length_cons,List.length_nil] at n ⊢;obtain⟨u,o⟩:=M y (.head _) (fun m J k I=>A m (.tail _ (uS.2 ⟨y,.head _,J⟩)) k I) key fun i h=>n i ⟨trivial,.inl h⟩;rw [u];by_cases k:(jt c rows t fv y key).kind=5
    ·obtain⟨w,z⟩:=A hd.name (.head _) (jt c rows t fv y key).s fun i h=>n i ⟨trivial,.inr ⟨k,h⟩⟩;exact⟨by rw [w],fun i=>by rw [o i,z i]⟩
    ·exact⟨by simp [k],fun i=>by rw [o i];simp [k]⟩
   ·exact⟨by simp [j],fun i=>by simp [j]⟩
  ·rw [if_neg G] at A;simp only [qoc D C G F,qn2 D C G F,zz] at n ⊢;unfold yL;simp only [zz];by_cases H:xV hd.kind=0
   ·exact⟨by simp [H],fun i=>by simp [H]⟩
   by_cases j:xV hd.kind=l.length
   ·have p:∀ x ∈ l,(∀ i,W8 c rows t fv fi x key i->K i=true)->jt c (rows.filter fun r=>K r.id) t fv' x key=jt c rows t fv x key/\∀ i,W8 c (rows.filter fun r=>K r.id) t fv' fi' x key i↔W8 c rows t fv fi x key i :=
     fun x L I=>M x L (fun m J k O=>A m (uS.2 ⟨x,L,J⟩) k O) key I
    have N:hd.kind=6∨hd.kind=7∨hd.kind=8∨hd.kind=9:=by
     unfold xV at H;by_cases a:hd.kind=6
     ·exact .inl a
     by_cases b:hd.kind=7
     ·exact .inr (.inl b)
     by_cases d:hd.kind=8
     ·exact .inr (.inr (.inl d))
     by_cases e:hd.kind=9
     ·exact .inr (.inr (.inr e))
     simp [a,b,d,e] at H
    rcases N with k | k | k | k
    ·have e:xV hd.kind=1:=by unfold xV;simp [k]
     match l,j,p,n with
     | [a],j,p,n =>
      simp only [z7,Jx,qPl,qQi,k,e,List.length_cons,List.length_nil] at n ⊢;obtain⟨u,o⟩:=p a (by simp) fun i h=>n i (by simp [h,xV]);exact⟨by rw [u],fun i=>by simp [o i,xV]⟩
     | [],j,_,_=>rw [e] at j;cases j
     | _::_::_,j,_,_=>rw [e] at j;simp at j
    ·have e:xV hd.kind=2:=by unfold xV;simp [k]
     match l,j,p,n with
     | [a,b],j,p,n =>
      simp only [z7,Jx,qPl,qQi,k,e,List.length_cons,List.length_nil] at n ⊢;obtain⟨u,o⟩:=p a (by simp) fun i h=>n i (by simp [h,xV]);obtain⟨w,z⟩:=p b (by simp) fun i h=>n i (by simp [h,xV]);exact⟨by rw [u,w],fun i=>by simp [o i,z i,xV]⟩
     | [],j,_,_=>rw [e] at j;cases j
     | [_],j,_,_=>rw [e] at j;simp at j
     | _::_::_::_,j,_,_=>rw [e] at j;simp at j
    ·have e:xV hd.kind=3:=by unfold xV;simp [k]
     match l,j,p,n with
     | [a,b,d],j,p,n =>
      simp only [z7,Jx,qPl,qQi,k,e,List.length_cons,List.length_nil] at n ⊢;obtain⟨u,o⟩:=p a (by simp) fun i h=>n i (by simp [h,xV]);rw [u];by_cases q:uH (jt c rows t fv a key)=true
      ·obtain⟨w,z⟩:=p b (by simp) fun i h=>n i (by simp [h,q,xV]);exact⟨by simp [q,w,xV],fun i=>by simp [o i,z i,q,xV]⟩
      ·obtain⟨w,z⟩:=p d (by simp) fun i h=>n i (by simp [h,q,xV]);exact⟨by simp [q,w,xV],fun i=>by simp [o i,z i,q,xV]⟩
     | [],j,_,_=>rw [e] at j;cases j
     | [_],j,_,_=>rw [e] at j;simp at j
     | [_,_],j,_,_=>rw [e] at j;simp at j
     | _::_::_::_::_,j,_,_=>rw [e] at j;simp at j
    ·have e:xV hd.kind=2:=by unfold xV;simp [k]
     match l,j,p,n with
     | [a,b],j,p,n =>
      simp only [z7,Jx,qPl,qQi,k,e,List.length_cons,List.length_nil] at n ⊢;obtain⟨u,o⟩:=p a (by simp) fun i h=>n i (by simp [h,xV]);rw [u];by_cases q:(jt c rows t fv a key).kind=0
      ·obtain⟨w,z⟩:=p b (by simp) fun i h=>n i (by simp [h,q,xV]);exact⟨by simp [q,w,xV],fun i=>by simp [o i,z i,q,xV]⟩
      ·exact⟨by simp [q,xV],fun i=>by simp [o i,q,xV]⟩
     | [],j,_,_=>rw [e] at j;cases j
     | [_],j,_,_=>rw [e] at j;simp at j
     | _::_::_::_,j,_,_=>rw [e] at j;simp at j
   ·exact⟨by simp [j],fun i=>by simp [j]⟩
theorem qSq {rows:List Rw} {fv fv':Str->Str->Val} {fi fi':Str->Str->FID->Prop} (d:Srt rows) (x:E)
  (h:∀ m ∈ Ub x,∀ key,fv' m key=fv m key/\∀ i,fi' m key i↔fi m key i) (key:Str) :
  jt c rows t fv' x key=jt c rows t fv x key/\∀ i,W8 c rows t fv' fi' x key i↔W8 c rows t fv fi x key i:=by
 have e:rows.filter (fun r=>(fun _:FID=>true) r.id)=rows:=qLv.2 fun _ _=>rfl;have:=qW9 (c:=c) (t:=t) (fv:=fv) (fv':=fv') (fi:=fi) (fi':=fi') d (fun _=>true) x (fun m a k _=>h m a k) key fun _ _=>rfl;rwa [e] at this
theorem qVj {rows:List Rw} {d:Str->Nat} (p:Srt rows) (o:∀ name f,xl c.features name=some f->∀ m ∈ Ub f.body,d m < d name) :
  ∀ n a b name key,d name < n->n<=a->n<=b->XC c rows t a name key=XC c rows t b name key/\∀ i,feaI c rows t a name key i↔feaI c rows t b name key i:=by
 intro n
 induction n with
 | zero=>exact fun a b name key h=>absurd h (qOe _)
 | succ n q =>
  intro a b name key h u w;obtain⟨a,rfl⟩:∃ k,a=k+1:=⟨a - 1,by omega⟩;obtain⟨b,rfl⟩:∃ k,b=k+1:=⟨b - 1,by omega⟩;simp only [XC,feaI];cases e:c.features.find? fun f=>decide (f.name=name) with
  | none=>exact⟨rfl,fun i=>qRo⟩
  | some f =>
   simp only;exact qSq p f.body (fun m j k=>q a b m k (by have:=o name f e m j;omega) (by omega) (by omega)) key
noncomputable def fvR (c:Cat) (rows:List Rw) (t:Int) (a:Str->Nat) (name key:Str):Val:=XC c rows t (a name+1) name key
def fiR (c:Cat) (rows:List Rw) (t:Int) (a:Str->Nat) (name key:Str):FID->Prop:=feaI c rows t (a name+1) name key
variable {a:Str->Nat}
theorem qU5 {rows:List Rw} (j:Srt rows) (h:∀ name f,xl c.features name=some f->∀ m ∈ Ub f.body,a m < a name) (name key:Str) :
  (fvR c rows t a name key=match xl c.features name with | some f=>jt c rows t (fvR c rows t a) f.body key | none=>val0) /\
  ∀ i,fiR c rows t a name key i↔match xl c.features name with | some f=>W8 c rows t (fvR c rows t a) (fiR c rows t a) f.body key i | none=>False:=by
 cases d:xl c.features name with
 | none =>
  unfold xl at d;exact⟨by unfold fvR;rw [XC,d],fun i=>by unfold fiR;rw [feaI,d]⟩
 | some f =>
  have n:=h name f d;have e:=qSq (c:=c) (t:=t) (fv:=fvR c rows t a) (fv':=XC c rows t (a name)) (fi:=fiR c rows t a) (fi':=feaI c rows t (a name)) j f.body (fun m o k=>qVj j h (a m+1) _ _ m k (qP5 _) (n m o) (w3 _)) key;unfold xl at d;refine⟨?_,fun i=>?_⟩
  ·show fvR c rows t a name key=jt c rows t (fvR c rows t a) f.body key;rw [<-e.1];show XC c rows t (a name+1) name key=_;rw [XC,d]
  ·show fiR c rows t a name key i↔W8 c rows t (fvR c rows t a) (fiR c rows t a) f.body key i;rw [<-e.2 i];show feaI c rows t (a name+1) name key i↔_;rw [feaI,d]
theorem qTc {l:List Str} {s m:Str} (h:m ∈ l):m ∈ vI l s:=by
 unfold vI;split
 ·exact h
 ·exact z6.2 (.inl h)
theorem qTd (l:List Str) (s:Str):s ∈ vI l s:=by
 unfold vI;split
 ·rename_i h;unfold vI.memS' at h;simpa using h
 ·simp
theorem qV5:∀ x:E,∀ p:List Str × List Str,(∀ m ∈ p.1,m ∈ (qls x p).1)/\∀ m ∈ Ub x,m ∈ (qls x p).1:=by
 intro x
 induction x using E.ind with
 | h hd l F =>
  intro p;have C:∀ (e:List E),(∀ x ∈ e,x ∈ l)->∀ q:List Str × List Str,(∀ m ∈ q.1,m ∈ (dirEs e q).1)/\∀ m ∈ refEs e,m ∈ (dirEs e q).1:=by
   intro e
   induction e with
   | nil=>exact fun _ q=>⟨fun m a=>a,fun m a=>by cases a⟩
   | cons y r G =>
    intro z q;obtain⟨j,n⟩:=F y (z y (.head _)) q;obtain⟨w,A⟩:=G (fun x D=>z x (.tail _ D)) (qls y q);refine⟨fun m a=>?_,fun m a=>?_⟩
    ·rw [dirEs];exact w m (j m a)
    ·rw [refEs] at a;rw [dirEs];rcases z6.1 a with a | a
     ·exact w m (n m a)
     ·exact A m a
  rw [qEy];obtain⟨j,n⟩:=C l (fun _ h=>h) (if hd.kind=3 then (vI p.1 hd.name,p.2) else if hd.kind=4 then (vI p.1 hd.name,p.2) else if hd.kind=5 then (p.1,vI p.2 hd.table) else p);refine⟨fun m a=>j m ?_,fun m a=>?_⟩
  ·split
   ·exact qTc a
   split
   ·exact qTc a
   split
   ·exact a
   ·exact a
  ·rw [qb7] at a;by_cases k:hd.kind=1
   ·rw [if_pos k] at a;cases a
   by_cases d:hd.kind=3
   ·rw [if_neg k,if_pos d] at a;rw [kl.1 a];refine j _ ?_;rw [if_pos d];exact qTd _ _
   by_cases u:hd.kind=5
   ·rw [if_neg k,if_neg d,if_pos u] at a;cases a
   by_cases o:hd.kind=4
   ·rw [if_neg k,if_neg d,if_neg u,if_pos o] at a;rcases xb.1 a with rfl | a
    ·refine j _ ?_;rw [if_neg d,if_pos o];exact qTd _ _
    ·exact n m a
   ·rw [if_neg k,if_neg d,if_neg u,if_neg o] at a;exact n m a
theorem qTx {fs:List Ftr} (h:XR fs):∃ a:Str->Nat,∀ name f,xl fs name=some f->∀ m ∈ Ub f.body,a m < a name:=by
 obtain⟨a,j⟩:=h;refine⟨fun s=>if (xl fs s).isSome then a s+1 else 0,fun name f d m e=>?_⟩;simp only [d,Option.isSome_some,if_true];by_cases q:(xl fs m).isSome=true
 ·have:=j name f d m ((qV5 f.body ([],[])).2 m e) q;simp only [q,if_true];omega
 ·simp only [q];simp
structure World (c:Cat) (rows:List Rw) (rk:Str->Nat):Prop where
 fit:zD 32 c
 few:rows.length<=1000
 row:∀ r ∈ rows,qdv r
 srt:Srt rows
 rank:∀ name f,xl c.features name=some f->∀ m ∈ Ub f.body,rk m < rk name
theorem World.filter {rows:List Rw} (h:World c rows a) (p:Rw->Bool):World c (rows.filter p) a :=
 ⟨h.fit,km (qMu _ _) h.few,fun r d=>h.row r (qA6.1 d).1,h.srt.filter p,h.rank⟩
theorem World.tabs {rows:List Rw} (h:World c rows a):c.tables.length<=1000000:=km h.fit.lt (by decide)
theorem World.ev {rows:List Rw} {k:Str->Nat} (h:World c rows k):∀ x:E,uh x->Jj c rows x:=by
 intro x
 induction x using E.ind with
 | h hd l j =>
  intro d;exact .mk _ _ (fun _=>⟨.inr h.srt,⟨h.tabs,fun n e=>(h.fit.ft n e).1,h.few,h.row,fun y a=>d.args y a⟩,d.inw.2⟩) fun _ y a=>j y a (d.args y a)
theorem World.body {rows:List Rw} {d:Str->Nat} (h:World c rows d) {name:Str} {f:Ftr} (a:xl c.features name=some f):Jj c rows f.body/\uh f.body:=by
 have:=(h.fit.ff f (qOc a)).1.2;exact⟨h.ev _ this,this⟩
theorem World.inw {rows:List Rw} {e:Str->Nat} (h:World c rows e) (t:Int):∀ n name key,x5 (XC c rows t n name key).n:=by
 intro n
 induction n with
 | zero=>intro name key;rw [XC];exact yZ
 | succ n d =>
  intro name key;rw [XC];cases a:c.features.find? fun f=>decide (f.name=name) with
  | none=>exact yZ
  | some f=>exact qlp f.body (fun m _ k=>d m k) (h.body a).2 (h.body a).1 key
theorem World.ask {rows:List Rw} (h:World c rows a) (j:0<=t/\t<=1099511627776):VW c rows t (fun _=>True) a (fvR c rows t a) (fiR c rows t a) where
 sol:=⟨fun name _ f d=>⟨fun m e=>⟨trivial,h.rank name f d m e⟩,h.body d⟩,fun name _ key=>(qU5 h.srt h.rank name key).1,fun name _ key=>(qU5 h.srt h.rank name key).2,fun name _ key=>h.inw t _ name key⟩
 feats:=km h.fit.lf (by unfold Go.Proofs.YtkdgbjhbpbgdeaaGreatDoor.big;decide)
 tabs:=h.tabs
 tick:=j
theorem qS9 (e:Str->Nat):∀ l:List Str,∃ R,∀ m ∈ l,e m < R
 | []=>⟨0,fun m d=>by cases d⟩
 | a::l=>by
  obtain⟨R,h⟩:=qS9 e l;refine⟨R+e a+1,fun m d=>?_⟩;rcases xb.1 d with rfl | d
  ·omega
  ·have:=h m d;omega
theorem World.ex {rows:List Rw} (h:World c rows a) {x:E} (d:uh x):∃ R,VS c rows (fun _=>True) a R x:=by
 obtain⟨R,e⟩:=qS9 a (Ub x);exact⟨R,d,h.ev x d,fun m j=>⟨trivial,e m j⟩⟩
theorem getD_some {d:Type} {l:List α} {g:α->d->Prop} {k:Nat} {i:d} (h:(l.map g).getD k (fun _=>False) i):∃ y ∈ l,g y i:=by
 rw [vk,qPx] at h;cases a:l[k]? with
 | none=>rw [a] at h;exact h.elim
 | some y=>rw [a] at h;exact⟨y,qMm a,h⟩
theorem qou.nodup {l:List FID} (h:qou l):l.Nodup:=h.imp fun {a b} hab e=>by
 subst e;have:=uT.refl a;omega
theorem qR6:∀ l:List E,(l.map cE).flatten.length=l.length * 12
 | []=>rfl
 | x::l=>by rw [z7,qKs,zr,qJz,qR6 l,qKg];omega
theorem qSp:∀ (l:List E) (r:List V) (i:Nat) (h:i < l.length),(((l.map cE).flatten++r).drop (i * 12)).take 12=cE l[i]
 | x::l,r,0,_=>by
  rw [z7,qKs,jm,qRr,qNk,qBf (qJz x)];rfl
 | x::l,r,i+1,h=>by
  rw [z7,qKs,jm,uu,qOo,qQu,<-qK1,qK3 (qJz x)];exact qSp l r i (by simpa using h)
def LS (l:List E) (v:V) (a:Bx):Prop :=
 (l=[]/\v=nilS/\a=[])∨∃ g c rest,l.length<=c/\((l.map cE).flatten++rest).length=c * 12/\v=.lit (.slice (some ⟨g,0,none⟩) l.length c)/\a=[(g,.c ((l.map cE).flatten++rest))]
theorem que:∀ x:E,(qio x).length<=kY x:=by
 intro x
 induction x using E.ind with
 | h h l e =>
 rw [qig,uO];split
 ·simp
 ·suffices hs:∀ m:List E,(∀ y ∈ m,(qio y).length<=kY y)->(aggsEs m).length<=sizeEs m by
   have:=hs l e;omega
  intro m
  induction m with
  | nil=>intro _;simp [aggsEs,sizeEs]
  | cons y m j =>
   intro a;rw [aggsEs,zr];have k:=a y (.head _);have n:=j fun z d=>a z (.tail _ d);simp only [sizeEs];omega
theorem qVo:∀ x:E,∀ a ∈ qio x,(uh x->uh a)/\kY a<=kY x:=by
 intro x
 induction x using E.ind with
 | h h l o =>
 intro a d;rw [qig] at d;split at d
 ·rw [kl.1 d];exact⟨id,w3 _⟩
 ·obtain⟨y,e,j⟩:=qqn d;obtain⟨k,p⟩:=o y e a j;have:=qnj e;exact⟨fun n=>k (n.args y e),by rw [uO];omega⟩
theorem LS.nil:LS [] nilS []:=.inl ⟨rfl,rfl,rfl⟩
theorem LS.put {l:List E} {x:E} {g c' m:Nat} (hc:l.length+1<=c') (a:m=(c' - (l.length+1)) * 12):LS (l++[x]) (.lit (.slice (some ⟨g,0,none⟩) (l.length+1) c')) [(g,.c ((l.map cE).flatten++cE x++zC m))]:=by
 refine .inr ⟨g,c',zC m,by rw [zr];exact hc,?_,by rw [zr];rfl,by rw [k8,qK0];simp⟩;rw [zr,xC,qR6,zr,List.length_singleton];omega
theorem qmw:∀ l m:List E,aggsEs (l++m)=aggsEs l++aggsEs m
 | [],m=>by rw [aggsEs];rfl
 | x::l,m=>by rw [qMr,aggsEs,aggsEs,qmw l m,jm]
theorem qT8 (l:List E):(aggsEs l).length<=sizeEs l:=by
 have h:=que (.mk (vb 0) l);rw [qig,if_neg (by decide),uO] at h
 induction l with
 | nil=>exact w3 _
 | cons x l a =>
  have d:=que x;rw [aggsEs,zr];have e:=a (by have:=que (.mk (vb 0) l);rwa [qig,if_neg (by decide),uO] at this);simp only [sizeEs];omega
theorem qR8:∀ (l:List E) (i:Nat) (h:i < l.length),sizeEs (l.take i)+kY l[i]<=sizeEs l
 | x::l,0,_=>by simp [sizeEs]
 | x::l,i+1,h=>by
  have:=qR8 l i (by simpa using h);simp only [List.take_succ_cons,sizeEs,List.getElem_cons_succ];omega
theorem qVq {b:Nat}:∀ {l:Bx},Nb b l->∀ p ∈ l,p.1 ≠ b/\b ≠ p.1
 | (x,z)::l,h,p,a=>by
  simp only [Nb] at h;rcases xb.1 a with rfl | a
  ·omega
  ·exact qVq h.2 p a
theorem qV7:∀ x:E,uh x->∀ (l:List E) (u:V) (d:Bx),LS l u d->l.length+kY x<=100000000 ->
  Ok prog 7 [vE x,u] d fun v R rs=>LS (l++qio x) v R/\rs=[]:=by
 intro x
 induction x using E.ind with
 | h h a ih =>
 intro M l u d N hn;have ag:=Ty.by41;have O:=M.len;have K:=M.args;simp only [E.args] at O K;have ad:=O;unfold big at ad;rw [uO] at hn;rw [qig];have A:cE (.mk h a)=Go.Lo.cH h (kI a):=wI h a;rw [vE,A];by_cases z:h.kind=5
 ·rw [if_pos z];rcases N with⟨rfl,rfl,rfl⟩ | ⟨g,c,rest,L,hr,rfl,rfl⟩
  ·refine oE func7 fun F Q G=>?_;refine qb fun j o=>?_;refine qa ?_;intro y;refine jS.r ?_;refine qa ?_;refine fun g c n L=>?_;replace n:=zS n;refine qa ?_;have k:=LS.put (l:=[]) (x:=.mk h a) (g:=g) L rfl;rw [A] at k;simp only [Go.Lo.cH,z] at k;exact⟨_,_,[],Le.refl _,List.Sublist.cons_cons _ (zn _),zn _,k,rfl⟩
  ·refine oE func7 fun F Q G=>?_;refine qb fun j o=>?_;have ah:wo [(j,B.c (Go.Lo.cH h (kI a))),(g,B.c ((l.map cE).flatten++rest))] g=[(j,B.c (Go.Lo.cH h (kI a)))]:=by
    simp [wo,o.1]
   refine qa ?_;intro y;refine jS.r ?_;refine qa ?_;refine⟨by omega,fun T c' n ac=>?_⟩;replace n:=zS n;refine qa ?_;have k:=LS.put (l:=l) (x:=.mk h a) (g:=T) ac rfl;rw [A] at k;simp only [Go.Lo.cH,z] at k;rw [<-qBf (l₂:=rest) (qR6 l)] at k;exact⟨_,_,[],Le.refl _,List.Sublist.cons_cons _ (zn _),zn _,k,rfl⟩
 ·rw [if_neg z];have aa:LS (l++aggsEs (a.take 0)) u d:=by rw [List.take_zero,aggsEs,wl];exact N
  refine oE func7 fun F Q G=>?_;refine qb fun j o=>?_;refine qa ?_;refine zI Ty.mixed (by rfl) a.length (fun i S=>∃ u d,(LS (l++aggsEs (a.take i)) u d/\j ∉ d.map (·.1))/\S.boxes=d++[(j,.c (Go.Lo.cH h (kI a)))]/\S.rows=[]/\S.σ 1=u/\S.σ 2=ptr j/\S.σ 5=vint i) ⟨(j,.c (Go.Lo.cH h (kI a)))::d,_,d++[(j,.c (Go.Lo.cH h (kI a)))],_,zc _,zc _,x8 (l₁:=[(j,B.c (Go.Lo.cH h (kI a)))]),zp _,?_⟩
   (fun i S w ⟨u,d,⟨q,C⟩,gb,gr,U,W,X⟩=>?_) (fun S ⟨u,d,⟨q,C⟩,gb,gr,U,W,X⟩=>?_)
  ·exact⟨u,d,⟨aa,fun D=>by obtain⟨p,hp,e⟩:=x9.1 D;exact(qVq o p hp).1 e⟩,by exact qA⟩
  ·have aj:=qj w;have P:=zs w;have Z:=vL (Y:=[(j,B.c (Go.Lo.cH h (kI a)))]) C;have hT:l++aggsEs (a.take (i+1))=l++aggsEs (a.take i)++qio a[i]:=by
    rw [zt w,qmw,jm,aggsEs,aggsEs,wl]
   have ae:(cE a[i]).take 12=cE a[i]:=xa (Nat.le_of_eq (qJz _));have I:(12<=(cE a[i]).length)=True:=eq_true (Nat.le_of_eq (qJz _).symm);have ai:=qR8 a i w;have af:=qT8 (a.take i);have k:=ih a[i] P (K _ P) _ u d q (by rw [zr];omega);rw [vE] at k;refine qn ?_;refine zB d [_] (zp _) k ?_;rintro v H rs ⟨I,rfl⟩ J;have ab:j ∉ H.map (·.1):=fun D=>by
    rw [k8] at J;exact(w4.1 J).2.2 j D j (by simp) rfl
   refine qa ?_;exact lP ⟨v,H,⟨I,ab⟩,by exact qA⟩
  ·have Z:=vL (Y:=[(j,B.c (Go.Lo.cH h (kI a)))]) C;rw [xa (w3 _)] at q;refine qn ?_;exact⟨u,d,[],Le.refl _,qOy _ _,zn _,q,rfl⟩
def qco (v:Val):Prop:=v.kind=1->(v.n=0∨v.n=1)/\v.s=qH
theorem qSh {v:Val} (h:wQ v=0):qco v:=fun k=>by
 unfold wQ at h;simp only [k] at h
 repeat' split at h
 all_goals simp_all <;> omega
theorem qlb (b:Bool):qco (Qk b):=fun _=>by cases b <;> simp [Qk]
theorem qif:qco val0:=fun k=>absurd k (by decide)
theorem qT6 {k:Int} (o:Option Int) (h:k ≠ 1):qco (Zm k o):=fun e=>by
 cases o
 ·exact absurd (show (0:Int)=1 from e) (by decide)
 ·exact absurd e h
theorem qSi {l:List Val} (h:∀ v ∈ l,qco v) (i:Nat):qco (l.getD i val0):=by
 rw [vk];cases a:l[i]? with
 | none=>exact qif
 | some v=>exact h v (qMm a)
theorem qUj {v:Val} (h:vF v=true):v.kind ≠ 1:=fun e=>by unfold vF at h;rw [e] at h;cases h
theorem qVn (op:Str) (a:Val):qco (unV op a):=by
 unfold unV;split
 ·exact qlb _
 split
 ·exact qlb _
 split
 ·rename_i h;exact fun e=>absurd e (qUj h.2)
 ·exact qif
theorem qT7 (op:Str) (a b:Val):qco (Qa op a b):=by
 unfold Qa XD
 repeat' split
 all_goals first | exact qT6 _ (by decide) | exact qif
theorem qUw (a b:Val) (op:Str):qco (uf a b op):=by
 unfold uf
 repeat' split
 all_goals first | exact qlb _ | exact qif
theorem qSs (b:Bool) (n:Int) (h:n=0∨n=1):qco (Zm 1 (if b then some n else none)):=by
 cases b
 ·exact qif
 ·exact fun _=>⟨h,rfl⟩
theorem qUx (op:Str) (a b:Val):qco (qmh op a b):=by
 unfold qmh
 repeat' split
 all_goals first | exact qlb _ | exact qSs _ _ (.inl rfl) | exact qSs _ _ (.inr rfl) | exact qUw _ _ _ | exact qT7 _ _ _ | exact qif
theorem qUv (h:Hd) {vs:List Val} (a:∀ v ∈ vs,qco v):qco (yL h vs):=by
 unfold yL
 repeat' split
 all_goals first | exact qif | exact qVn _ _ | exact qUx _ _ _ | exact qSi a _
theorem qUh {tb:Tab} {r:Rw} (k:∀ v ∈ r.fields,qco v):∀ x:E,zX x true=true->qco (jT tb r x):=by
 intro x
 induction x using E.ind with
 | h h l o =>
 intro j;obtain⟨a,u,w,q,z⟩:=yX j;rw [qnn];split
 ·rename_i p;unfold za at a;rw [if_pos p] at a;by_cases d:wQ h.val=0
  ·exact qSh d
  ·rw [if_pos d] at a;cases a
 split
 ·unfold qDs;split
  ·exact qSi k _
  ·exact qif
 ·refine qUv h fun v n=>?_;obtain⟨y,e,rfl⟩:=x9.1 n;exact o y e (q y e)
abbrev x7 (h:Hd) (o:Str):Hd:={ h with op:=o,param:=0 }
abbrev exTrue:E:=.mk Wr []
abbrev qT4 (a:E):E:=.mk { vb 6 with op:=qLc } [a]
abbrev qVl (a:E):E:=.mk { vb 6 with op:=qNa } [qT4 a]
abbrev qhp (a b:E):E:=.mk { vb 7 with op:=qLg } [qVl a,b]
theorem qWs (z:Bool) {v:Val} (hb:qco v):uH (qmh qLg (Qk (!z)) v)=(uH v && !z):=by
 have e:qmh qLg (Qk (!z)) v=if noV (Qk (!z)) || noV v then Qk false else Zm 1 (if decide ((Qk (!z)).kind=1) && decide (v.kind=1) then some 1 else none):=by
  unfold qmh;rw [if_pos rfl]
 rw [e];cases z
 ·by_cases a:noV v=true
  ·rw [a];have:v=⟨1,0,qH⟩:=of_decide_eq_true a;subst this;rfl
  ·have a:noV v=false:=by simpa using a
   rw [a];by_cases k:v.kind=1
   ·obtain⟨d,h⟩:=hb k;obtain⟨j,vn,n⟩:=v;simp only at k d h;subst k h;rcases d with rfl | rfl
    ·exact absurd a (by decide)
    ·rfl
   ·have d:uH v=false:=by
     unfold uH;rw [decide_eq_false_iff_not];intro e;rw [e] at k;exact k rfl
    rw [d,decide_eq_false k];rfl
 ·rw [show noV (Qk (!true))=true from rfl,Bool.true_or,if_pos rfl];cases uH v <;> rfl
theorem qUs (tb:Tab) (h:Hd) (a b:E) (key:Str) (t:Int) (r:Rw) (hb:qco (jT tb r b)):QY tb (x7 h qdp) exTrue (qhp a b) key t r=QY tb h a b key t r:=by
 have d:jT tb r (qhp a b)=qmh qLg (Qk (!decide ((jT tb r a).kind=0))) (jT tb r b):=by
  simp only [qnn,z7,Jx];show qmh qLg (unV qNa (unV qLc (jT tb r a))) _=_;generalize jT tb r a=u;congr 1;show unV qNa (Qk (decide (u.kind=0)))=_;cases decide (u.kind=0) <;> rfl
 have e:(jT tb r exTrue)=⟨1,1,qH⟩:=rfl;unfold QY;rw [d,e,qWs _ hb];generalize decide ((jT tb r a).kind=0)=z;show (_ && (_ && (_ && ((uH (jT tb r b) && !z) && true))))=_;rw [qM9]
theorem qU2 {rows:List Rw} {a b:E} {tb:Tab} (j:ud c h.table=some tb) (hb:∀ r ∈ rows,qco (jT tb r b)) :
  zW c rows (x7 h qdp) [exTrue,qhp a b] key t=zW c rows h [a,b] key t:=by
 have e:Wo c rows (x7 h qdp) [exTrue,qhp a b] key t=Wo c rows h [a,b] key t:=by
  unfold Wo;show (match ud c h.table,[exTrue,qhp a b] with | some tb,[a,b]=>if h.kind=5/\jb t=true then rows.filter (QY tb (x7 h qdp) a b key t) else [] | _,_=>[])=_;rw [j];show (if h.kind=5/\jb t=true then rows.filter (QY tb (x7 h qdp) exTrue (qhp a b) key t) else [])=if h.kind=5/\jb t=true then rows.filter (QY tb h a b key t) else [];split
  ·exact qN6 fun r d=>qUs tb h a b key t r (hb r d)
  ·rfl
 unfold zW;rw [e];rfl
theorem qSd:∀ (l m:List Val),(l.foldl (fun m v=>if v ∈ m then m else m++[v]) m).length<=m.length+l.length/\m.length<=(l.foldl (fun m v=>if v ∈ m then m else m++[v]) m).length/\(l ≠ []->0 < (l.foldl (fun m v=>if v ∈ m then m else m++[v]) m).length)
 | [],m=>by simp
 | v::l,m=>by
  rw [qQ4];by_cases h:v ∈ m
  ·rw [if_pos h];obtain⟨d,a,_⟩:=qSd l m;have:=List.length_pos_of_mem h;exact⟨by simp only [List.length_cons];omega,a,fun _=>by omega⟩
  ·rw [if_neg h];obtain⟨d,a,_⟩:=qSd l (m++[v]);simp only [zr,List.length_cons,List.length_nil] at d a ⊢;exact⟨by omega,by omega,fun _=>by omega⟩
theorem qV4 (h:Hd) (l:List Val) (evs:List Int) (t:Int):∃ k:Nat,qh1 (x7 h qHp) l evs t=⟨2,(k:Int),qH⟩/\k<=l.length/\(k=0↔l.length=0):=by
 obtain⟨d,_,e⟩:=qSd l [];refine⟨(yw l).length,?_,by unfold yw;simpa using d,fun h=>?_,fun h=>?_⟩
 ·unfold qh1;rw [if_neg (by show ¬ qHp=qdp;decide),if_pos rfl]
 ·cases l with
  | nil=>rfl
  | cons a r =>
   have:=e (by simp);unfold yw at h;omega
 ·rw [qL2 h];rfl
structure Ext (vs:List Val) (g:List Val):Prop where
 len:g.length=4
 nil:vs=[]->∀ v ∈ g,v=val0
 mem:vs ≠ []->∀ v ∈ g,v ∈ vs
 le1:cmpVal (g.getD 0 val0) (g.getD 1 val0)<=0
 le2:cmpVal (g.getD 0 val0) (g.getD 2 val0)<=0
 le3:cmpVal (g.getD 3 val0) (g.getD 1 val0)<=0
abbrev qii:List Str:=[qL8,qL9,qAc,jD]
theorem qX5 (h:Hd) (l:List Val) (evs:List Int) (t:Int) (a:l ≠ []) :
  qii.map (fun o=>qh1 (x7 h o) l evs t)=[(yJ l).getD 0 val0,(yJ l).getD (l.length - 1) val0,l.getD 0 val0,l.getD (l.length - 1) val0]:=by
 simp only [z7,Jx];unfold qh1;simp only [if_neg a];rfl
theorem qTw {l:List Val} (z:l ≠ []) {v:Val} (p:v ∈ l):cmpVal ((yJ l).getD 0 val0) v<=0/\cmpVal v ((yJ l).getD (l.length - 1) val0)<=0:=by
 have x:=WP l;have o:=vi l;have A:=o.length_eq;have y:0 < l.length:=List.length_pos_of_mem p;obtain⟨k,e,rfl⟩:=qOu.1 (o.mem_iff.2 p);have q:(yJ l).getD 0 val0=(yJ l)[0]'(by omega):=by rw [vk,yb (by omega)];rfl
 have u:(yJ l).getD (l.length - 1) val0=(yJ l)[l.length - 1]'(by omega):=by rw [vk,yb (by omega)];rfl
 rw [q,u];have n:∀ i j (a:i < (yJ l).length) (d:j < (yJ l).length),i<=j->cmpVal (yJ l)[i] (yJ l)[j]<=0:=fun i j a d w=>by
  rcases Nat.lt_or_eq_of_le w with h | rfl
  ·exact qRg.1 x i j a d h
  ·rw [jr.refl];exact Int.le_refl 0
 exact⟨n 0 k _ e (KM _),n k _ e _ (by omega)⟩
theorem qSy {l:List Val} {i:Nat} (h:i < l.length):l.getD i val0 ∈ l:=by
 rw [vk,yb h];exact zs h
theorem qWo (h:Hd) (l:List Val) (evs:List Int) (t:Int):Ext l (qii.map fun o=>qh1 (x7 h o) l evs t):=by
 by_cases a:l=[]
 ·subst a;have e:(qii.map fun o=>qh1 (x7 h o) [] evs t)=[val0,val0,val0,val0]:=rfl;rw [e];exact⟨rfl,fun _ v d=>by simpa using d,fun h=>absurd rfl h,by decide,by decide,by decide⟩
 ·rw [qX5 h l evs t a];have j:0 < l.length:=List.length_pos_iff.2 a;have q:=(vi l).length_eq;have u:(yJ l).getD 0 val0 ∈ l:=(vi l).mem_iff.1 (qSy (by omega));have k:(yJ l).getD (l.length - 1) val0 ∈ l:=(vi l).mem_iff.1 (qSy (by omega));have n:l.getD 0 val0 ∈ l:=qSy j;have p:l.getD (l.length - 1) val0 ∈ l:=qSy (by omega);refine⟨rfl,fun e=>absurd e a,fun _ v d=>?_,(qTw a k).1,(qTw a n).1,(qTw a p).2⟩;simp only [xb,y8,or_false] at d;rcases d with rfl | rfl | rfl | rfl <;> assumption
theorem qUa (h:Hd) (l:List E) (o:Str):zk prog 12 [vE (.mk h l),vstr o] (vE (.mk (x7 h o) l)):=by
 rw [vE,vE,wI,wI];refine oE func12 fun F n a=>?_;refine qb fun d j=>?_;refine qb fun e k=>?_;exact qe
theorem qWi {u a:V} {l:List E} (hu:Le u (qN h.unit)) (d:Le a (kI l)):yf [vint h.kind,vstr h.op,vstr h.name,vstr h.table,vint h.val.kind,vint h.val.n,vstr h.val.s,u,vint h.param,vint h.wk,vint h.ws,a] (cE (.mk h l)):=by
 rw [wI];exact .c1 (.c1 (.c1 (.c1 (.c1 (.c1 (.c1 (.cons hu (.c1 (.c1 (.c1 (.cons d .nil)))))))))))
theorem qT5 (h:Hd) (p q:E):zk prog 10 [vE (.mk h [p,q])] (vE (.mk (x7 h qdp) [exTrue,qhp p q])):=by
 have k:=qUa h [p,q] qdp;have z:=qck ⟨1,1,qH⟩;rw [vE,vE,wI,wI] at k;rw [vE,wI];have D:(cE q).take 12=cE q:=xa (Nat.le_of_eq (qJz _));have A:=qJz q;have C:yx (cE q)=true:=by rw [qY];rfl
 refine Ok.of_exM [(3,1)] Ty.mixed func10 rfl (by simp) (by kernel_rfl) fun F O H=>?_;refine qb fun I w=>?_;refine qb fun J x=>?_;have a:=aI w x;refine qb fun K y=>?_;have a:=aI a y;refine qa ?_;refine fun G L d=>?_;replace d:=zS d;try simp only [Nb] at d
 have a:=aI a d;simp only [↓rA,rU,qoq,a,D,A,C,simprocAttr];refine fun M e=>?_;replace e:=zS e;try simp only [Nb] at e
 have a:=aI a e;refine qi _ k ?_;refine qa ?_;refine fun N j=>?_;replace j:=zS j;try simp only [Nb] at j
 have a:=aI a j;refine qa ?_;refine qt _ z.v ?_;refine qa ?_;have n:=qWi (h:={ vb 6 with op:=qLc }) (l:=[p]) (Le.nil 2) (Le.refl _);have o:=qWi (h:={ vb 6 with op:=qNa }) (l:=[qT4 p]) (Le.nil 2) (Le.lists (own:=some G) (.cons n .nil));have u:=qWi (h:={ vb 7 with op:=qLg }) (l:=[qVl p,q]) (Le.nil 2) (Le.lists (own:=none) (.cons o (.cons (yf.same _) .nil)));exact⟨_,[],[],leE (h:=x7 h qdp) (Le.refl _) (Le.lists (.cons (by rw [wI];exact yf.same _) (.cons u .nil))),zn _,zn _,rfl,rfl,rfl⟩
abbrev exV (c:Cat) (rows:List Rw) (t:Int) (h:Hd) (l:List E) (key:Str):Val:=if jb t=true then VE c rows t h l key else val0
theorem qS7 (t:Int):jb t=true↔0<=t/\t<=1099511627776:=by unfold jb;simp
theorem qVk {rows:List Rw} {j:Str->Nat} (d:World c rows j) {l:List E} (p:h.kind=5) (n:uh (.mk h l)) (key:Str) (t:Int) :
  zk prog 11 [zO c,qZ rows,vE (.mk h l),vstr key,vint t] (.agg (qS (exV c rows t h l key))):=by
 unfold exV;by_cases a:jb t=true
 ·rw [if_pos a];obtain⟨R,o⟩:=d.ex n;have k:=yC (qht (d.ask ((qS7 t).1 a)) o key);have e:jt c rows t (fvR c rows t j) (.mk h l) key=VE c rows t h l key:=by
   rw [jt];unfold evH;simp [p]
  rwa [e] at k
 ·rw [if_neg a];exact yC (qUu c rows _ key fun h=>a ((qS7 t).2 h))
theorem qVw {rows:List Rw} {l:List E} (a:¬ jb t=true):zW c rows h l key t=[]:=by
 have e:Wo c rows h l key t=[]:=by
  unfold Wo;split
  ·rw [if_neg fun h=>a h.2]
  ·rfl
 unfold zW;rw [e];split <;> rfl
structure Cnt (c:Cat) (rows:List Rw) (h:Hd) (p q:E) (tb:Tab) (key:Str) (t:Int) (few:List Rw) (n d:Val) (g:List Val):Prop where
 cnt:jb t=true->n=⟨2,(few.length:Int),qH⟩/\∃ k:Nat,d=⟨2,(k:Int),qH⟩/\k<=few.length/\(k=0↔few.length=0)
 ext:Ext (few.map fun r=>jT tb r p) g
theorem qWp {rows:List Rw} {p q:E} {tb:Tab} (d:ud c h.table=some tb) (hb:∀ r ∈ rows,qco (jT tb r q)) (key:Str) (t:Int) :
  Cnt c rows h p q tb key t (zW c rows h [p,q] key t) (exV c rows t (x7 h qdp) [exTrue,qhp p q] key) (exV c rows t (x7 h qHp) [p,q] key) (qii.map fun o=>exV c rows t (x7 h o) [p,q] key):=by
 have u:∀ o,VE c rows t (x7 h o) [p,q] key=qh1 (x7 h o) ((zW c rows h [p,q] key t).map fun r=>jT tb r p) ((zW c rows h [p,q] key t).map (·.event)) t:=fun o=>by
  unfold VE;show (match ud c h.table with | some tb=>_ | none=>_)=_;rw [d];rfl
 have x:VE c rows t (x7 h qdp) [exTrue,qhp p q] key=⟨2,((zW c rows h [p,q] key t).length:Int),qH⟩:=by
  unfold VE;show (match ud c h.table with | some tb=>_ | none=>_)=_;rw [d];show qh1 (x7 h qdp) _ _ t=_;rw [qU2 d hb];unfold qh1;rw [if_pos rfl,zz]
 by_cases a:jb t=true
 ·refine⟨fun _=>⟨by unfold exV;rw [if_pos a];exact x,?_⟩,?_⟩
  ·obtain⟨k,w,j,n⟩:=qV4 h ((zW c rows h [p,q] key t).map fun r=>jT tb r p) ((zW c rows h [p,q] key t).map (·.event)) t;rw [zz] at j n;exact⟨k,by unfold exV;rw [if_pos a,u,w],j,n⟩
  ·have:=qWo h ((zW c rows h [p,q] key t).map fun r=>jT tb r p) ((zW c rows h [p,q] key t).map (·.event)) t;have e:(qii.map fun o=>exV c rows t (x7 h o) [p,q] key)=qii.map fun o=>qh1 (x7 h o) ((zW c rows h [p,q] key t).map fun r=>jT tb r p) ((zW c rows h [p,q] key t).map (·.event)) t :=
    qLu fun o _=>by unfold exV;rw [if_pos a,u]
   rw [e];exact this
 ·refine⟨fun h=>absurd h a,?_⟩;rw [qVw a];have e:(qii.map fun o=>exV c rows t (x7 h o) [p,q] key)=[val0,val0,val0,val0]:=by
   simp only [z7,Jx,exV,if_neg a]
  rw [e];exact⟨rfl,fun _ v y=>by simpa using y,fun h=>absurd rfl h,by decide,by decide,by decide⟩
theorem qVb {l:List yg} (j:∀ x ∈ l,x.kind=1->∀ v ∈ x.fact.fields,wQ v=0) {r:Rw} (h:r ∈ Zv l t):∀ v ∈ r.fields,qco v:=by
 obtain⟨x,k,a,e,_⟩:=qyo h;rw [e];exact fun v d=>qSh (j x k (by unfold Qv at a;simp_all) v d)
theorem qVh:uh exTrue:=.mk _ _ (KM _) (KM _) (by decide) nofun
theorem qTh {l:List E} (a:uh (.mk h l)) (o:Str):uh (.mk (x7 h o) l) :=
 .mk _ _ a.unit a.len ⟨a.inw.1,by show (-9223372036854775808:Int)<=0/\(0:Int) < 9223372036854775808;decide⟩ a.args
theorem qVi {p q:E} (d:uh (.mk h [p,q])) (o:Str):uh (.mk (x7 h o) [exTrue,qhp p q]):=by
 have k:uh p:=d.args p (.head _);have u:uh q:=d.args q (.tail _ (.head _));have e:uh (qT4 p):=.mk _ _ (KM _) (by show 1<=big;decide) (by decide) fun x a=>by simp only [kl] at a;rw [a];exact k
 have n:uh (qVl p):=.mk _ _ (KM _) (by show 1<=big;decide) (by decide) fun x a=>by simp only [kl] at a;rw [a];exact e
 have j:uh (qhp p q):=.mk _ _ (KM _) (by show 2<=big;decide) (by decide) fun x a=>by
  simp only [xb,y8,or_false] at a;rcases a with rfl | rfl <;> assumption
 refine .mk _ _ d.unit (by show 2<=big;decide) (qTh d o).inw fun x a=>?_;simp only [xb,y8,or_false] at a;rcases a with rfl | rfl
 ·exact qVh
 ·exact j
end Go.Proofs.YtkdgbjhbpbgdeaaGreatDoor
