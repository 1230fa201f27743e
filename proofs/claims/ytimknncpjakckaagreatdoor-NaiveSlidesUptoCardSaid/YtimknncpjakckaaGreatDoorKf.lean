/- Merged out of my texts Y3 ZW ZX ZY ZP ZQ ZR Z0 Y7 EB Z1 Z2 Z3 Z4 Y2 Z5 Z7 Z8. -/
import Derived.Test.YtimknncpjakckaaGreatDoorKA
import Derived.Test.YtimknncpjakckaaGreatDoorKe
import Derived.Test.YtimknncpjakckaaGreatDoorKc
import Derived.Test.YtimknncpjakckaaGreatDoorKVc
import Derived.Test.YtimknncpjakckaaGreatDoorKVa
import Derived.Test.YtimknncpjakckaaGreatDoorKa
import Derived.Test.YtimknncpjakckaaGreatDoorKVd
import Derived.Test.YtimknncpjakckaaGreatDoorRows
import Derived.ProofKit
import Derived.JoinedCond
import Derived.OpenShut
import Derived.Shelf.Vars
import GoSem.ClaimSeven
set_option linter.unusedSimpArgs false
set_option maxRecDepth 100000
set_option linter.defProp false
set_option maxHeartbeats 4000000
set_option linter.unusedVariables false
open Go.Proofs.Tryz
namespace Go.Nv
open Go.VL Go.Ar Go.Lo Go.Nm Go.Sg
mutual
def Ub:E->List Str
 | .mk h l=>if h.kind=1 then [] else if h.kind=3 then [h.name] else if h.kind=5 then [] else if h.kind=4 then h.name::refEs l else refEs l
def refEs:List E->List Str
 | []=>[]
 | x::r=>Ub x++refEs r
end
theorem uS {m:Str}:∀ {l:List E},m ∈ refEs l↔∃ x ∈ l,m ∈ Ub x
 | []=>by simp [refEs]
 | x::r=>by
  rw [refEs,z6,uS (l:=r)];simp
theorem qb7 (h:Hd) (l:List E):Ub (.mk h l)=if h.kind=1 then [] else if h.kind=3 then [h.name] else if h.kind=5 then [] else if h.kind=4 then h.name::refEs l else refEs l:=by rfl
theorem qod {d:Str->Str->Val} {h:Hd} {vs:List Val} {a:Val} {key:Str} (k:h.kind=1):evH d h vs a key=h.val:=by unfold evH;simp_all
theorem qc2 {d:Str->Str->Val} {h:Hd} {vs:List Val} {a:Val} {key:Str} (k:h.kind=3):evH d h vs a key=d h.name key:=by unfold evH;simp_all
theorem KH {d:Str->Str->Val} {h:Hd} {vs:List Val} {a:Val} {key:Str} (k:h.kind=4):evH d h vs a key=if vs.length ≠ 1 then val0 else if (vs.getD 0 val0).kind ≠ 5 then val0 else d h.name (vs.getD 0 val0).s:=by unfold evH;simp_all
theorem qc3 {d:Str->Str->Val} {h:Hd} {vs:List Val} {a:Val} {key:Str} (k:h.kind=5):evH d h vs a key=a:=by unfold evH;simp_all
theorem qoc {d:Str->Str->Val} {h:Hd} {vs:List Val} {a:Val} {key:Str} (e:¬ h.kind=1) (j:¬ h.kind=3) (k:¬ h.kind=4) (n:¬ h.kind=5):evH d h vs a key=yL h vs:=by unfold evH;simp_all
section
variable {c:Cat} {rows:List Rw} {t:Int}
theorem Y7 (a:Str->Str->Val) (key:Str):∀ l:List E,evXs c rows t a l key=l.map fun x=>jt c rows t a x key
 | []=>by rfl
 | x::r=>by rw [evXs,Y7 a key r];rfl
theorem qf5 (a:Str->Str->Val) (feaI:Str->Str->FID->Prop) (key:Str):∀ l:List E,idXs c rows t a feaI l key=l.map fun x=>W8 c rows t a feaI x key
 | []=>by rfl
 | x::r=>by rw [idXs,qf5 a feaI key r];rfl
theorem qc1 (a:Str->Str->Val) (h:Hd) (l:List E) (key:Str):jt c rows t a (.mk h l) key=evH a h (l.map fun x=>jt c rows t a x key) (VE c rows t h l key) key:=by
 rw [jt,Y7]
theorem qk7 (a:Str->Str->Val) (feaI:Str->Str->FID->Prop) (h:Hd) (l:List E) (key:Str) :
  W8 c rows t a feaI (.mk h l) key=idH feaI h (l.map fun x=>jt c rows t a x key) (l.map fun x=>W8 c rows t a feaI x key) (VF c rows t h l key) key:=by
 rw [W8,Y7,qf5]
end
end Go.Nv
namespace Go.Nv
open Go.VL Go.Ar Go.Lo Go.Nm Go.Sg Go.Proofs.YtimknncpjakckaaGreatDoor
theorem qFp (h:Hd) {l:List Val} (evs:List Int) (t:Int) (a:∀ v ∈ l,inW v.n) (C:l.length<=1000):inW (qh1 h l evs t).n:=by
 have d:∀ v ∈ yJ l,inW v.n:=fun v A=>a v ((vi l).mem_iff.1 A);have D:=qql l;unfold qh1 XD;by_cases j:h.op=qdp
 ·rw [if_pos j];show inW (l.length:Int);unfold inW;omega
 rw [if_neg j];by_cases o:h.op=qHp
 ·rw [if_pos o];show inW ((yw l).length:Int);unfold inW;omega
 rw [if_neg o];by_cases e:l=[]
 ·rw [if_pos e];exact yZ
 rw [if_neg e];by_cases p:h.op=qAc
 ·rw [if_pos p];exact Go.Proofs.YtimknncpjakckaaGreatDoor.getD_in a _
 rw [if_neg p];by_cases q:h.op=jD
 ·rw [if_pos q];exact Go.Proofs.YtimknncpjakckaaGreatDoor.getD_in a _
 rw [if_neg q];by_cases u:h.op=qL8
 ·rw [if_pos u];exact Go.Proofs.YtimknncpjakckaaGreatDoor.getD_in d _
 rw [if_neg u];by_cases w:h.op=qL9
 ·rw [if_pos w];exact Go.Proofs.YtimknncpjakckaaGreatDoor.getD_in d _
 rw [if_neg w];split
 ·exact yZ
 by_cases x:h.op=JE
 ·rw [if_pos x];exact yl _ fun n h=>qb9 h
 rw [if_neg x];by_cases y:h.op=QZ
 ·rw [if_pos y];exact yl _ fun n h=>qb9 h
 rw [if_neg y];by_cases z:h.op=XN
 ·rw [if_pos z];exact yl _ fun n h=>qb9 h
 rw [if_neg z];by_cases k:h.op=QG
 ·rw [if_pos k];exact qw0 _
 rw [if_neg k];exact yZ
theorem qmd {k s t a z:Int} (h:xL k s t=some (a,z)):0<=a/\z=t/\0<=t/\t<=1099511627776:=by
 unfold xL at h;split at h
 case isFalse=>cases h
 rename_i e;rw [k7] at e;obtain⟨j,d⟩:=e;unfold jb at d;rw [k7,decide_eq_true_eq,decide_eq_true_eq] at d;split at h
 ·simp_all
 split at h
 ·injection h with h;injection h with n o;omega
 split at h
 ·rename_i q x u;injection h with h;injection h with n o
  unfold uJ at j;rw [if_neg q,if_pos (.inr (.inl u)),k7,decide_eq_true_eq,decide_eq_true_eq] at j;have p:t.tmod s<=t:=by
   rw [qPr d.1];have p:=qR0 t s;have w:=qRh (a:=s) (b:=t / s) (by omega) (qO5 d.1 (by omega));omega
  omega
 ·cases h
theorem JX {c:Cat} {rows:List Rw} {h:Hd} {l:List E} {key:Str} {t:Int} (k:¬ h.wk=4) {r:Rw} (d:r ∈ zW c rows h l key t):r ∈ rows/\0<=r.event/\r.event<=t/\l.length=2:=by
 unfold zW qni at d;rw [if_neg k] at d;cases j:xL h.wk h.ws t with
 | none=>simp_all
 | some p =>
  obtain⟨a,z⟩:=p;rw [j] at d;simp only [qA6,qMv,qR2,decide_eq_false_iff_not] at d;have q:=qmd j;obtain⟨d,n,o⟩:=d;rw [YR] at d;split at d
  ·rename_i e;unfold wC at e;simp only [k7,decide_eq_true_eq] at e;exact⟨(qA6.1 d).1,by omega,by omega,e.2.2.1⟩
  simp_all
theorem JY {c:Cat} {rows:List Rw} {h:Hd} {l:List E} {key:Str} {t:Int}:(zW c rows h l key t).length<=rows.length:=by
 unfold zW;split
 ·refine km (qMu _ _) ?_;rw [YR];split
  ·exact qMu _ _
  ·simp
 ·simp
structure qA2 (c:Cat) (rows:List Rw) (h:Hd) (l:List E):Prop where
 win:¬ h.wk=4
 fit:qF3 c rows l
 par:inW h.param/\(h.op=QG->0<=h.param/\h.param<=1073741824)
inductive Jj (c:Cat) (rows:List Rw):E->Prop
 | mk (h:Hd) (l:List E) (ha:h.kind=5->qA2 c rows h l) (hl:¬ h.kind=5->∀ x ∈ l,Jj c rows x):Jj c rows (.mk h l)
theorem qFn {c:Cat} {rows:List Rw} {h:Hd} {l:List E} (d:qA2 c rows h l) (t:Int) (key:Str):inW (VE c rows t h l key).n:=by
 unfold VE;split
 ·rename_i n _;refine qFp h _ t (fun v k=>?_) (by rw [zz];exact km JY d.fit.few);obtain⟨r,j,rfl⟩:=x9.1 k;have e:=JX d.win j
  match l,e.2.2.2,d with
  | [a,b],_,d=>exact qb4 n r (d.fit.row r e.1) a (d.fit.args a (by simp)).2
 ·exact yZ
theorem qlp {c:Cat} {rows:List Rw} {t:Int} {p:Str->Str->Val}:∀ x:E,(∀ m ∈ Ub x,∀ k,inW (p m k).n)->jk x->Jj c rows x->∀ key,inW (jt c rows t p x key).n:=by
 intro x
 induction x using E.ind with
 | h hd l C =>
  intro h o q key;rw [qb7] at h;rw [jk] at o;obtain⟨_,_,u,w⟩:=q;rw [qc1];by_cases e:hd.kind=1
  ·rw [qod e];exact o.1
  by_cases j:hd.kind=3
  ·rw [if_neg e,if_pos j] at h;rw [qc2 j];simp_all
  by_cases a:hd.kind=5
  ·rw [qc3 a];exact qFn (u a) t key
  rw [if_neg e,if_neg j,if_neg a] at h;by_cases n:hd.kind=4
  ·rw [if_pos n] at h;rw [KH n];split
   ·exact yZ
   split
   ·exact yZ
   simp_all
  ·rw [if_neg n] at h;rw [qoc e j n a];refine qex hd fun v A=>?_;obtain⟨y,d,rfl⟩:=x9.1 A;exact C y d (fun m z=>h m (uS.2 ⟨y,d,z⟩)) (o.2.mem d) (w a y d) key
structure ug (g:List (Nat × FID × Unit)) (cl:Nat) (e:FID->Prop):Prop where
 lt:∀ p ∈ g,p.1 < cl
 apart:zT g
 mem:∀ i,(zy g i).isSome=true↔e i
theorem ug.nil:ug [] 0 fun _=>False:=⟨by simp,List.Pairwise.nil,fun i=>by simp [zy]⟩
theorem ug.congr {g cl e e'} (h:ug g cl e) (a:∀ i,e i↔e' i):ug g cl e':=⟨h.lt,h.apart,fun i=>(h.mem i).trans (a i)⟩
theorem ug.old {g cl e} (h:ug g cl e) {i:FID} {q} (k:zy g i=some q):ug g cl fun j=>e j∨j=i :=
 h.congr fun j=>⟨.inl,fun d=>d.elim id fun a=>by rw [a];exact(h.mem i).1 (by simp_all)⟩
theorem ug.new {g cl e} (h:ug g cl e) {i:FID} (k:zy g i=none):ug (g++[(cl,i,())]) (cl+1) fun j=>e j∨j=i where
 lt p a:=by
  rcases z6.1 a with a | a
  ·exact qOf (h.lt p a)
  simp_all
 apart:=by
  refine qMl.2 ⟨h.apart,by simp,fun p a q d=>?_⟩;rw [kl] at d;subst d;exact⟨h.lt p a,fun e=>vn k p a e.symm⟩
 mem j:=by
  rw [ut,<-h.mem j];cases e:zy g j with
  | some q=>simp
  | none=>simp
abbrev cKn (p:Val × Nat):V:=.agg [vint p.1.kind,vint p.1.n,vstr p.1.s,Lo.mp p.2]
abbrev vBo (b:Bool):V:=qq b
abbrev mI (g:List (Nat × FID × Unit)) (cl:Nat):B:=.m ([.s,.i .i64],true) (qP u4 vTt g) cl
abbrev mB (g:List (Nat × Str × Bool)) (cl:Nat):B:=.m ([.s],false) (qP Jt vBo g) cl
abbrev mD (g:List (Nat × (Str × Str) × (Val × Nat))) (cl:Nat):B:=.m ([.s,.s],true) (qP kSS cKn g) cl
def QU (g:List (Nat × Str × Bool)) (m:Str):Bool:=((zy g m).map (·.2.2)).getD false
theorem qaf {g:List (Nat × Str × Bool)} {m:Str} {q} (h:zy g m=some q) (b:Bool) (k:Str):QU (ko m b g) k=if k=m then b else QU g k:=by
 unfold QU;rw [Wu];by_cases e:k=m
 ·subst e;have:=(xh h).2;simp_all
 ·rw [if_neg e];cases d:zy g k with
  | none=>rfl
  | some p =>
   have:¬ p.2.1=m:=fun a=>e ((xh d).2.trans a);simp_all
theorem qq7 {g:List (Nat × Str × Bool)} {m:Str} (a:zy g m=none) (cl:Nat) (b:Bool) (k:Str):QU (g++[(cl,m,b)]) k=if k=m then b else QU g k:=by
 unfold QU;rw [ut];by_cases e:k=m
 ·simp_all
 ·cases zy g k <;> simp [e]
structure UB (fv:Str->Str->Val) (fi:Str->Str->FID->Prop) (G:List (Nat × (Str × Str) × (Val × Nat))) (L:List Nat) (f:Nat->B):Prop where
 nodup:L.Nodup
 pl:∀ p ∈ G,p.2.2.1=fv p.2.1.1 p.2.1.2/\p.2.2.2 ∈ L/\∃ g cl,f p.2.2.2=mI g cl/\ug g cl (fi p.2.1.1 p.2.1.2)
theorem UB.nil (fv fi) (f:Nat->B):UB fv fi [] [] f:=⟨qOb,by simp⟩
theorem UB.old {fv fi G L f} (h:UB fv fi G L f) {b:Nat} (hb:b ∉ L) (z:B):UB fv fi G (b::L) (Zb f b z) where
 nodup:=js.2 ⟨hb,h.nodup⟩
 pl p hp:=by
  obtain⟨a,d,j⟩:=h.pl p hp;refine⟨a,.tail _ d,?_⟩;rw [JG _ _ fun e:p.2.2.2=b=>hb (by simp_all)];omega
theorem UB.put {fv fi G L f} (h:UB fv fi G L f) {b:Nat} (hb:b ∉ L) {g cl} {n k:Str} (q:ug g cl (fi n k)) {d:List (Nat × (Str × Str) × (Val × Nat))}
  (o:∀ p ∈ d,p ∈ G∨(p.2.1=(n,k)/\p.2.2=(fv n k,b))):UB fv fi d (b::L) (Zb f b (mI g cl)) where
 nodup:=js.2 ⟨hb,h.nodup⟩
 pl p a:=by
  rcases o p a with a | ⟨e,j⟩
  ·exact(h.old hb (mI g cl)).pl p a
  ·rw [e,j];exact⟨rfl,x6,g,cl,vh _ _ _,q⟩
theorem qCm {α d:Type} [DecidableEq α] {a:α} {v:d} {g:List (Nat × α × d)} {p:Nat × α × d} (h:p ∈ ko a v g):p ∈ g∨(p.2.1=a/\p.2.2=v):=by
 induction g with
 | nil=>cases h
 | cons q g j =>
  unfold ko at h;split at h
  ·rename_i e;rcases xb.1 h with rfl | h
   ·simp_all
   simp_all
  ·rcases xb.1 h with rfl | h
   ·simp
   ·exact(j h).imp (.tail _) id
structure qJ9 (c:Cat) (rows:List Rw) (t:Int) (N:Str->Prop) (rk:Str->Nat) (fv:Str->Str->Val) (fi:Str->Str->FID->Prop):Prop where
 ref:∀ name,N name->∀ f,xl c.features name=some f->(∀ m ∈ Ub f.body,N m/\rk m < rk name)/\Jj c rows f.body/\uh f.body/\jk f.body
 val:∀ name,N name->∀ key,fv name key=match xl c.features name with | some f=>jt c rows t fv f.body key | none=>val0
 ids:∀ name,N name->∀ key i,fi name key i↔match xl c.features name with | some f=>W8 c rows t fv fi f.body key i | none=>False
 inw:∀ name,N name->∀ key,inW (fv name key).n
def WB (c:Cat) (rows:List Rw) (t:Int) (w:Str->Str->Val) (u:Str->Str->FID->Prop) (k d a j:Nat) (x:Str->Bool) (e:FID->Prop) (o:Bx):Prop :=
 ∃ G q h p g n L f,UB w u G L f/\(∀ m,QU h m=x m)/\ug g n e/\(k ∉ L/\d ∉ L/\a ∉ L/\j ∉ L) /\
  o=(j,mI g n)::(k,.c (qT c++[qZ rows,vint t,Lo.mp d,Lo.mp a]))::(d,mD G q)::(a,mB h p)::dl L f
theorem WB.congr {c rows t fv fi bw bd bb bi β e e' bs} (h:WB c rows t fv fi bw bd bb bi β e bs) (w:∀ i,e i↔e' i):WB c rows t fv fi bw bd bb bi β e' bs:=by
 obtain⟨G,j,a,d,g,k,L,f,n,o,p,q,u⟩:=h;exact⟨G,j,a,d,g,k,L,f,n,o,p.congr w,q,u⟩
abbrev Ap4 (h d a e:Nat):Prop:=(e ≠ h/\h ≠ e)/\(e ≠ d/\d ≠ e)/\(e ≠ a/\a ≠ e)/\(h ≠ d/\d ≠ h)/\(h ≠ a/\a ≠ h)/\(d ≠ a/\a ≠ d)
end Go.Nv
namespace Go.VL
theorem qys (f:Nat->B):∀ L:List Nat,(dl L f).map (·.1)=L
 | []=>rfl
 | x::L=>by
  have:=qys f L;simp_all
theorem qLh {X:Bx} {L:List Nat} {f:Nat->B} (h:((X++dl L f).map (·.1)).Nodup):∀ b ∈ X.map (·.1),b ∉ L:=by
 rw [k8,qys,w4] at h;exact fun b d a=>h.2.2 b d b a rfl
theorem qHs {b:Nat}:∀ {l:Bx},Nb b l->∀ p ∈ l,p.1 ≠ b/\b ≠ p.1
 | (x,z)::l,h,p,a=>by
  simp only [Nb] at h;rcases xb.1 a with rfl | a
  ·omega
  ·exact qHs h.2 p a
end Go.VL
namespace Go.Proofs.YtimknncpjakckaaGreatDoor
open Go.VL Go.Ar Go.Lo Go.Nv Go.Sg Go.Nm Go.Proofs.YtimknncpjakckaaGreatDoor
abbrev qAr (c:Cat) (rows:List Rw) (t:Int) (N:Str->Prop) (q:Str->Nat) (j:Str->Str->Val) (o:Str->Str->FID->Prop) (R:Nat):Prop :=
 ∀ x:E,uh x->jk x->Jj c rows x->(∀ m ∈ Ub x,N m/\q m < R)->∀ (key:Str) (h n k a:Nat) (p:Str->Bool) (e:FID->Prop) (d:Bx),Ap4 h n k a->(∀ m,N m->q m < R->p m=false)->WB c rows t j o h n k a p e d ->
  Ok prog 35 [ptr h,vE x,vstr key,mp a] d fun v d u=>v=.agg (qS (jt c rows t j x key))/\WB c rows t j o h n k a p (fun i=>e i∨W8 c rows t j o x key i) d/\u=[]
abbrev qmz (c:Cat) (rows:List Rw) (t:Int) (N:Str->Prop) (q:Str->Nat) (o:Str->Str->Val) (n:Str->Str->FID->Prop) (R:Nat):Prop :=
 ∀ name,N name->q name < R->∀ (key:Str) (h k j a:Nat) (p:Str->Bool) (e:FID->Prop) (d:Bx),Ap4 h k j a->(∀ m,N m->q m < R->p m=false)->WB c rows t o n h k j a p e d ->
  Ok prog 55 [ptr h,vstr name,vstr key,mp a] d fun v d u=>v=.agg (qS (o name key))/\WB c rows t o n h k j a p (fun i=>e i∨n name key i) d/\u=[]
def qMg (c:Cat) (rows:List Rw) (t:Int) (e:Str->Str->Val) (x:Str->Str->FID->Prop) (C A z d h:Nat) (D:Str->Bool) (name key:Str) (g:List (Nat × FID × Unit)) (cl:Nat) (S:St):Prop :=
 S.rows=[]/\S.σ 3=mp d/\S.σ 8=ptr h/\∃ (a j:Nat) (n:List (Nat × FID × Unit)) (k:Nat) (o p:Bx),S.σ 10=ptr a/\ug n k (x name key)/\zF S.boxes a=some [vint (e name key).kind,vint (e name key).n,vstr (e name key).s,mp j]/\wq S.boxes j=some (([.s,.i .i64],true),qP u4 vTt n,k) /\
  ((j ≠ d/\d ≠ j)/\(j ≠ h/\h ≠ j)/\(j ≠ a/\a ≠ j)/\(a ≠ d/\d ≠ a)/\(a ≠ h/\h ≠ a))/\p.Sublist S.boxes /\
  p.Perm ((j,mI n k)::(a,.c [vint (e name key).kind,vint (e name key).n,vstr (e name key).s,mp j])::(h,.c [vint 0,vint 0,vstr qH])::(d,mI g cl)::o) /\
  ∀ y u w,ug y u w->∃ q,((j,mI n k)::(d,mI y u)::o).Perm q/\WB c rows t e x C A z d D w q
theorem qn4:∀ g:List (Nat × FID × Unit),(g.filterMap fun p=>(fun q:FID × Unit=>some q.1) p.2)=g.map fun p=>p.2.1
 | []=>rfl
 | p::g=>by
  simp
def qNz (c:Cat) (rows:List Rw) (t:Int) (a d e p n o:Nat) (name key:Str) (g:List (Nat × FID × Unit)) (cl:Nat) (G:List (Nat × (Str × Str) × (Val × Nat))) (x:Nat) (q:List (Nat × Str × Bool)) (w:Nat) (u:List Nat) (f:Nat->B) (h:Bool) (z0 j k z3:V) (L:Nat->Bool) (S:St):Prop :=
 S.rows=[]/\S.σ 0=ptr a/\S.σ 1=vstr name/\S.σ 2=vstr key/\S.σ 3=mp p/\S.σ 8=ptr n/\S.σ 9=ptr o/\(L 0=true->S.σ 19=ptr a)/\(L 1=true->S.σ 20=ptr a)/\(L 2=true->S.σ 21=pt a 6)/\(L 3=true->S.σ 22=mp d)/\(L 4=true->S.σ 23=.agg [vstr name,vstr key])/\(L 5=true->S.σ 24=.tup [.agg [z0,j,k,z3],qq h])/\(L 6=true->S.σ 18=.tup [.agg [z0,j,k,z3],qq h])/\(L 7=true->S.σ 25=.agg [z0,j,k,z3])/\(L 8=true->S.σ 26=qq h)/\(L 11=true->S.σ 11=qq h) /\
 ∃ (X:Bx),S.boxes=[(o,.c [vstr name,vstr key]),(n,.c [vint 0,vint 0,vstr qH]),(p,mI g cl),(a,.c (qT c++[qZ rows,vint t,mp d,mp e])),(d,mD G x),(e,mB q w)]++(X++dl u f)/\((L 9=false/\L 10=false/\X=[])∨(L 9=true/\∃ b y z A C,X=[(b,.c [y,z,A,C])]/\S.σ 10=ptr b/\Nb b ([(o,.c [vstr name,vstr key]),(n,.c [vint 0,vint 0,vstr qH]),(p,mI g cl),(a,.c (qT c++[qZ rows,vint t,mp d,mp e])),(d,mD G x),(e,mB q w)]++dl u f)/\(L 10=true->[y,z,A,C]=[z0,j,k,z3])))
theorem qDy {c:Cat} {rows:List Rw} {t:Int} {N:Str->Prop} {rk:Str->Nat} {n:Str->Str->Val} {fi:Str->Str->FID->Prop} (hS:qJ9 c rows t N rk n fi) (a7:c.features.length<=Go.Proofs.YtimknncpjakckaaGreatDoor.big) (R:Nat) (hE:∀ R',R' < R->qAr c rows t N rk n fi R'):qmz c rows t N rk n fi R:=by
 intro name hN hR key C d a u β e bs hd aS hW;have aT:=aS name hN hR;obtain⟨G,cd,I,cb,g,K,Ln,f,hM,hB,hs,⟨nw,nd,nb,ni⟩,rfl⟩:=hW;refine Ok.permR (Q:=fun v bs rs=>(v=.agg (qS (n name key))/\∃ ah,bs.Perm ah/\WB c rows t n fi C d a u β (fun i=>e i∨fi name key i) ah)/\rs=[]) ?_ (fun v bs rs ⟨⟨hv,ah,hp,hw⟩,hr⟩=>⟨ah,hp,hv,hw,hr⟩);have al:=Y6 c name a7;have ac:=zb (cV:=cKn) YP (name,key) G;obtain⟨kn,z0,z1,z2,z3,hz,bA,bf⟩:∃ (kn:Bool) (z0 z1 z2 z3:V),((kn=true/\∃ p,zy G (name,key)=some p/\z0=vint p.2.2.1.kind/\z1=vint p.2.2.1.n/\z2=vstr p.2.2.1.s/\z3=mp p.2.2.2)∨(kn=false/\z0=vint 0/\z1=vint 0/\z2=vstr qH/\z3=.lit (.map none)))/\yx [z0,z1,z2,z3]=true /\
   ((kn=false/\z0=vint 0/\z1=vint 0/\z2=vstr qH/\z3=.lit (.map none)/\VL.findM (qP kSS cKn G) (kSS (name,key))=none)∨(kn=true/\VL.findM (qP kSS cKn G) (kSS (name,key))=some (.agg [z0,z1,z2,z3]))):=by
  cases hq:zy G (name,key) with
  | some p=>rw [hq] at ac;exact⟨true,_,_,_,_,.inl ⟨rfl,p,rfl,rfl,rfl,rfl,rfl⟩,rfl,.inr ⟨rfl,ac⟩⟩
  | none=>rw [hq] at ac;exact⟨false,_,_,_,_,.inr ⟨rfl,rfl,rfl,rfl,rfl⟩,rfl,.inl ⟨rfl,rfl,rfl,rfl,rfl,ac⟩⟩
 refine Ok.of_exM [(2,3)] Ty.mixed func55 rfl (by simp) (by kernel_rfl) fun F w0 I0=>?_;refine qa ?_;refine fun H h8=>?_;replace h8:=zS h8;simp only [Nb] at h8;refine qa ?_;refine fun b9 h9=>?_;replace h9:=zS h9;simp only [Nb] at h9;have D:=And.intro hd (And.intro h8 h9);have aX:=Jh h8.2.2.2.2;have aZ:=Jh h9.2.2.2.2.2;refine qa ?_;refine yp Ty.mixed (by rfl) (by rfl) (qNz c rows t C d a u H b9 name key g K G cd I cb Ln f kn z0 z1 z2 z3) ?_ ?_ ?_
 ·exact⟨by rfl,by rfl,by rfl,by rfl,by rfl,by rfl,by rfl,nofun,nofun,nofun,nofun,nofun,nofun,nofun,nofun,nofun,nofun,[],by rfl,.inl ⟨rfl,rfl,rfl⟩⟩
 ·intro L S i o1 o hL he ⟨y,O,P,T,U,W,Y,f0,f1,f2,f3,f4,f5,f6,f7,f8,f11,X,k,Z⟩
  match i,o with
  | 0,o =>
   cases o;refine qa ?_;exact lP ⟨y,O,P,T,U,W,Y,fun _=>rfl,f1,f2,f3,f4,f5,f6,f7,f8,f11,X,k,Z⟩
  | 1,o =>
   cases o;have d0:=f0 (he ⟨0,.data⟩ (by simp) rfl);refine qa ?_;exact lP ⟨y,O,P,T,U,W,Y,f0,fun _=>rfl,f2,f3,f4,f5,f6,f7,f8,f11,X,k,Z⟩
  | 2,o =>
   cases o;have d1:=f1 (he ⟨1,.data⟩ (by simp) rfl);refine qa ?_;exact lP ⟨y,O,P,T,U,W,Y,f0,f1,fun _=>rfl,f3,f4,f5,f6,f7,f8,f11,X,k,Z⟩
  | 3,o =>
   cases o;have d2:=f2 (he ⟨2,.data⟩ (by simp) rfl);refine qa ?_;exact lP ⟨y,O,P,T,U,W,Y,f0,f1,f2,fun _=>rfl,f4,f5,f6,f7,f8,f11,X,k,Z⟩
  | 4,o =>
   cases o;refine qa ?_;exact lP ⟨y,O,P,T,U,W,Y,f0,f1,f2,f3,fun _=>rfl,f5,f6,f7,f8,f11,X,k,Z⟩
  | 5,o =>
   cases o;have d3:=f3 (he ⟨3,.data⟩ (by simp) rfl);have d4:=f4 (he ⟨4,.data⟩ (by simp) rfl);rcases bf with⟨rfl,rfl,rfl,rfl,rfl,ac⟩ | ⟨rfl,ac⟩
   ·simp only [↓rA,rU,D,k,d3,d4,ac,simprocAttr];exact lP ⟨by exact qA,O,P,T,U,W,Y,f0,f1,f2,f3,f4,fun _=>rfl,f6,f7,f8,f11,X,k,Z⟩
   ·simp only [↓rA,rU,D,k,d3,d4,ac,simprocAttr];exact lP ⟨by exact qA,O,P,T,U,W,Y,f0,f1,f2,f3,f4,fun _=>rfl,f6,f7,f8,f11,X,k,Z⟩
  | 6,o =>
   cases o;have d5:=f5 (he ⟨5,.data⟩ (by simp) rfl);refine qa ?_;exact lP ⟨y,O,P,T,U,W,Y,f0,f1,f2,f3,f4,f5,fun _=>rfl,f7,f8,f11,X,k,Z⟩
  | 7,o =>
   cases o;have d6:=f6 (he ⟨6,.data⟩ (by simp) rfl);refine qa ?_;exact lP ⟨y,O,P,T,U,W,Y,f0,f1,f2,f3,f4,f5,f6,fun _=>rfl,f8,f11,X,k,Z⟩
  | 8,o =>
   cases o;have d6:=f6 (he ⟨6,.data⟩ (by simp) rfl);refine qa ?_;exact lP ⟨y,O,P,T,U,W,Y,f0,f1,f2,f3,f4,f5,f6,f7,fun _=>rfl,f11,X,k,Z⟩
  | 11,o =>
   cases o;have d8:=f8 (he ⟨8,.data⟩ (by simp) rfl);refine qa ?_;exact lP ⟨y,O,P,T,U,W,Y,f0,f1,f2,f3,f4,f5,f6,f7,f8,fun _=>rfl,X,k,Z⟩
  | 9,o =>
   cases o;rcases Z with⟨_,q0,rfl⟩ | ⟨q0,_⟩
   case inr=>rw [hL] at q0;cases q0
   simp only [↓rA,rU,y,simprocAttr];refine fun b hb=>?_;replace hb:=zS hb;rw [k,qKv] at hb;exact⟨_,_,_,_,zc _,zc _,(show ((b,B.c [vint 0,vint 0,vstr qH,.lit (.map none)])::S.boxes).Perm ([(b9,B.c [vstr name,vstr key]),(H,B.c [vint 0,vint 0,vstr qH]),(u,mI g K),(C,B.c (qT c++[qZ rows,vint t,mp d,mp a])),(d,mD G cd),(a,mB I cb)]++([(b,B.c [vint 0,vint 0,vstr qH,.lit (.map none)])]++dl Ln f)) by rw [k];exact(ux (l₁:=[(b9,B.c [vstr name,vstr key]),(H,B.c [vint 0,vint 0,vstr qH]),(u,mI g K),(C,B.c (qT c++[qZ rows,vint t,mp d,mp a])),(d,mD G cd),(a,mB I cb)])).symm),zp _,y,O,P,T,U,W,Y,f0,f1,f2,f3,f4,f5,f6,f7,f8,f11,[(b,.c [vint 0,vint 0,vstr qH,.lit (.map none)])],rfl,.inr ⟨rfl,b,_,_,_,_,rfl,rfl,hb,fun h=>by rw [show L 10=true from h] at q0;cases q0⟩⟩
  | 10,o =>
   cases o;have l9:=he ⟨9,.data⟩ (by simp) rfl;have d7:=f7 (he ⟨7,.data⟩ (by simp) rfl);rcases Z with⟨q0,_⟩ | ⟨_,b,u0,u1,u2,u3,rfl,ed,hb,_⟩
   ·rw [l9] at q0;cases q0
   have a6:=hb;simp only [Nb,List.cons_append,List.nil_append] at a6;refine qa ?_;exact lP ⟨by exact qA,O,P,T,U,W,Y,f0,f1,f2,f3,f4,f5,f6,f7,f8,f11,[_],rfl,.inr ⟨l9,b,_,_,_,_,rfl,ed,hb,fun _=>rfl⟩⟩
 ·intro L S hL ⟨y,O,P,T,U,W,Y,f0,f1,f2,f3,f4,f5,f6,f7,f8,f11,X,k,Z⟩;rcases Z with⟨q0,_⟩ | ⟨_,b,u0,u1,u2,u3,rfl,ed,hb,hu⟩
  ·rw [hL 9 (by simp)] at q0;cases q0
  replace hu:=hu (hL 10 (by simp));replace f0:=f0 (hL 0 (by simp));replace f1:=f1 (hL 1 (by simp));replace f2:=f2 (hL 2 (by simp));replace f3:=f3 (hL 3 (by simp));replace f4:=f4 (hL 4 (by simp));replace f5:=f5 (hL 5 (by simp));replace f6:=f6 (hL 6 (by simp));replace f7:=f7 (hL 7 (by simp));replace f8:=f8 (hL 8 (by simp));replace f11:=f11 (hL 11 (by simp));simp only [qKi,and_true] at hu;obtain⟨rfl,rfl,rfl,rfl⟩:=hu;have ba:b ∉ Ln:=Jh hb.2.2.2.2.2.2;simp only [List.cons_append,List.nil_append] at k;simp only [Nb,List.cons_append,List.nil_append] at hb;have D:=And.intro D hb;have g0:=O;have g1:=P;have g2:=T;have g3:=U;have g8:=W;have g9:=Y;have aV:=f11;have ad:=ed;clear O P T U W Y f0 f1 f2 f3 f4 f5 f6 f7 f8 f11 ed;obtain⟨J,rfl⟩:∃ x,x=b:=⟨b,rfl⟩;rw [zu];refine xe (qMg c rows t n fi C d a u H β name key g K) ?_ ?_
  ·rcases hz with⟨rfl,p,hq,rfl,rfl,rfl,rfl⟩ | ⟨rfl,rfl,rfl,rfl,rfl⟩
   ·have hp:=(xh hq).1;have hk:=(xh hq).2;obtain⟨h1,ap,gj,cj,aB,aF⟩:=hM.pl p hp;rw [<-hk] at h1 aF;simp only at h1 aF;rw [h1] at k;generalize p.2.2.2=j at ap aB k;have bv:=qcv ap aB;have ne:∀ x,x ∉ Ln->j ≠ x/\x ≠ j:=fun x hx=>⟨fun e=>hx (e▸ap),fun e=>hx (e▸ap)⟩;have hj:=And.intro (ne _ ni) (And.intro (ne _ nw) (And.intro (ne _ nd) (And.intro (ne _ nb) (And.intro (ne _ aX) (And.intro (ne _ aZ) (ne _ ba))))));have aD:=JL (f:=f) ap;rw [aB] at aD;refine qa ?_;refine⟨by exact qA,by exact qA,by exact qA,J,j,gj,cj,(C,.c (qT c++[qZ rows,vint t,mp d,mp a]))::(d,mD G cd)::(a,mB I cb)::dl (Ln.erase j) f,(H,.c [vint 0,vint 0,vstr qH])::(u,mI g K)::(C,.c (qT c++[qZ rows,vint t,mp d,mp a]))::(d,mD G cd)::(a,mB I cb)::(J,.c [vint (n name key).kind,vint (n name key).n,vstr (n name key).s,mp j])::dl Ln f,by exact qA,aF,by exact qA,by exact qA,by simp only [D,hj,ne_eq,not_false_eq_true,and_self],?_,?_,fun M aa e' ag=>⟨(u,mI M aa)::(C,.c (qT c++[qZ rows,vint t,mp d,mp a]))::(d,mD G cd)::(a,mB I cb)::dl Ln f,?_,G,cd,I,cb,M,aa,Ln,f,hM,hB,ag,⟨nw,nd,nb,ni⟩,rfl⟩⟩
    ·show List.Sublist _ S.boxes;rw [k];simp
    ·exact(ux (l₁:=[_,_,_,_,_])).trans ((aD.append_left [_,_,_,_,_,_]).trans (ux (l₁:=[_,_,_,_,_,_])))
    ·exact(ux (l₁:=[_,_,_,_])).symm.trans (aD.symm.append_left [_,_,_,_])
   ·cases ao:xl c.features name with
    | none =>
     have hv:=hS.val name hN key;have hid:=fun i=>hS.ids name hN key i;rw [ao] at al;simp only [ao] at hv hid;simp only [J4,qs] at al;refine qi _ al ?_;refine qb fun ae ak=>?_;have D:=And.intro D ak;simp only [↓rA,rU,y,g8,D,simprocAttr];refine⟨_,(u,mI g K)::(C,.c (qT c++[qZ rows,vint t,mp d,mp a]))::(d,mD G cd)::(a,mB I cb)::dl Ln f,[],Le.refl _,(((((((zc _).cons _).cons_cons _).cons_cons _).cons_cons _).cons_cons _).cons _).cons _ |>.cons _,zn _,⟨by rw [hv],_,zp _,WB.congr ⟨G,cd,I,cb,g,K,Ln,f,hM,hB,hs,⟨nw,nd,nb,ni⟩,rfl⟩ fun i=>⟨.inl,fun h=>h.elim id fun h=>((hid i).1 h).elim⟩⟩,rfl⟩
    | some w =>
     obtain⟨bo,bc,be,bj⟩:=hS.ref name hN w ao;have hv:=hS.val name hN key;have hid:=fun i=>hS.ids name hN key i;simp only [ao] at hv hid;rw [ao] at al;simp only [J4,qs] at al;have aw:=zb (cV:=vBo) kW name I;have bz:=xI (cV:=vBo) kW name true I;refine qi _ al ?_;refine qa ?_;refine fun ae ak=>?_;replace ak:=zS ak;simp only [Nb] at ak;have D:=And.intro D ak;simp only [↓qJ,↓zx,↓zA,↓ua,↓wR,zw,qu,kM,vA,wB,jx,wz,yd,ky,uk,vv,Xe,kO,jA,jZ,zP,j1,yh,xB,Xu,yx,w3,eq_self,and_self,not_false_eq_true,ne_eq,z7,Jx,List.take_zero,qL1,qO3,List.length_cons,List.length_nil,List.nil_append,wl,qJ0,qM9,Nat.reduceEqDiff,Nat.reduceAdd,y,tU,Nat.reduceShiftRight,Nat.reduceMod];rw [zu];refine xe (fun S=>S.rows=[]/\S.σ 0=ptr C/\S.σ 1=vstr name/\S.σ 2=vstr key/\S.σ 3=mp u/\S.σ 8=ptr H/\S.σ 9=ptr b9/\S.σ 10=ptr J/\S.σ 12=ptr ae/\S.boxes=(ae,.c (cF w w.body.hd (kI w.body.args)))::(b9,.c [vstr name,vstr key])::(H,.c [vint 0,vint 0,vstr qH])::(u,mI g K)::(C,.c (qT c++[qZ rows,vint t,mp d,mp a]))::(d,mD G cd)::(a,mB I cb)::(J,.c [vint 0,vint 0,vstr qH,.lit (.map none)])::dl Ln f) ?_ ?_
     ·cases af:zy I name with
      | some q =>
       have q2:q.2.2=false:=by
        have:=hB name;unfold QU at this;rw [af,aT] at this;exact this
       rw [af,qA4,q2] at aw;exact kK
      | none =>
       rw [af,qI9] at aw;exact kK
     clear y g0 g1 g2 g3 g8 g9 ad aV k;rintro S ⟨y,g0,g1,g2,g3,g8,g9,ad,aG,k⟩;rw [zu];refine xe (fun S=>S.rows=[]/\S.σ 0=ptr C/\S.σ 1=vstr name/\S.σ 2=vstr key/\S.σ 3=mp u/\S.σ 8=ptr H/\S.σ 9=ptr b9/\S.σ 10=ptr J/\S.σ 12=ptr ae/\∃ am ar,(∀ m,QU am m=if m=name then true else β m)/\S.boxes=(ae,.c (cF w w.body.hd (kI w.body.args)))::(b9,.c [vstr name,vstr key])::(H,.c [vint 0,vint 0,vstr qH])::(u,mI g K)::(C,.c (qT c++[qZ rows,vint t,mp d,mp a]))::(d,mD G cd)::(a,mB am ar)::(J,.c [vint 0,vint 0,vstr qH,.lit (.map none)])::dl Ln f) ?_ ?_
     ·cases af:zy I name with
      | some q =>
       rw [af,qA4] at aw;refine qa ?_;exact⟨ko name true I,cb,fun m=>by rw [qaf af,hB],rfl⟩
      | none =>
       rw [af,qI9] at aw;refine qa ?_;exact⟨I++[(cb,name,true)],cb+1,fun m=>by rw [qq7 af,hB],by simp⟩
     clear y g0 g1 g2 g3 g8 g9 ad aG k;rintro S ⟨y,g0,g1,g2,g3,g8,g9,ad,aG,am,ar,a0,k⟩;refine qa ?_;refine fun A hk=>?_;replace hk:=zS hk;simp only [Nb] at hk;have bh:=Jh hk.2.2.2.2.2.2.2.2;have D:=And.intro D hk;have aI:=hE (rk name) hR w.body be bj bc bo key C d a A (fun m=>if m=name then true else β m) (fun _=>False) ((A,mI [] 0)::(C,.c (qT c++[qZ rows,vint t,mp d,mp a]))::(d,mD G cd)::(a,mB am ar)::dl Ln f) (by unfold Ap4;simp only [D,ne_eq,not_false_eq_true,and_self]) (fun m hm hr=>by
      by_cases e:m=name
      ·subst e;omega
      ·rw [if_neg e];exact aS m hm (by omega)) ⟨G,cd,am,ar,[],0,Ln,f,hM,a0,ug.nil,⟨nw,nd,nb,bh⟩,rfl⟩
     rw [vE,qY] at aI;refine qB ?_;refine qr _ [] ?_ (Ok.frame [(ae,.c (cF w w.body.hd (kI w.body.args))),(b9,.c [vstr name,vstr key]),(H,.c [vint 0,vint 0,vstr qH]),(u,mI g K),(J,.c [vint 0,vint 0,vstr qH,mp A])] aI) ?_
     ·rw [wl];exact((ux (l₁:=[_,_,_])).append_left [_,_,_,_,_]).trans (ux (l₁:=[_,_,_,_,_])).symm
     rintro v _ rs ⟨b1,rfl,a4,rfl,⟨G2,au,ab,ai,gs,cs,L2,f2,a2,aH,aq,⟨mw,md,mb,mk⟩,rfl⟩,rfl⟩;have a5:=qLh (X:=[(ae,.c (cF w w.body.hd (kI w.body.args))),(b9,.c [vstr name,vstr key]),(H,.c [vint 0,vint 0,vstr qH]),(u,mI g K),(J,.c [vint 0,vint 0,vstr qH,mp A]),(A,mI gs cs),(C,.c (qT c++[qZ rows,vint t,mp d,mp a])),(d,mD G2 au),(a,mB ab ai)]) (L:=L2) (f:=f2) a4;have mi:u ∉ L2:=a5 _ (by simp);have az:QU ab name=true:=(aH name).trans (if_pos rfl);have aA:=zb (cV:=vBo) kW name ab;have aK:=xI (cV:=vBo) kW name false ab;cases aE:zy ab name with
     | none=>unfold QU at az;rw [aE] at az;cases az
     | some q2 =>
     rw [aE,qA4] at aA;have a1:∀ m,QU (ko name false ab) m=β m:=fun m=>by
      rw [qaf aE,aH];by_cases e:m=name
      ·subst e;rw [if_pos rfl,aT]
      ·exact(if_neg e).trans (if_neg e)
     have aP:ug gs cs (fi name key):=aq.congr fun i=>⟨fun h=>h.elim (fun h=>h.elim) fun h=>(hid i).2 h,fun h=>.inr ((hid i).1 h)⟩;have ax:=zb (cV:=cKn) YP (name,key) G2;have bl:=xI (cV:=cKn) YP (name,key) (jt c rows t n w.body key,A) G2;have fin:∀ (S:St) (G3:List (Nat × (Str × Str) × (Val × Nat))) (aj:Nat),(∀ p ∈ G3,p ∈ G2∨(p.2.1=(name,key)/\p.2.2=(jt c rows t n w.body key,A)))->S.rows=[]->S.σ 3=mp u->S.σ 8=ptr H->S.σ 10=ptr J ->
       S.boxes=(ae,.c (cF w w.body.hd (kI w.body.args)))::(b9,.c [vstr name,vstr key])::(H,.c [vint 0,vint 0,vstr qH])::(u,mI g K)::(J,.c [vint (jt c rows t n w.body key).kind,vint (jt c rows t n w.body key).n,vstr (jt c rows t n w.body key).s,mp A])::(A,mI gs cs)::(C,.c (qT c++[qZ rows,vint t,mp d,mp a]))::(d,mD G3 aj)::(a,mB (ko name false ab) ai)::dl L2 f2->qMg c rows t n fi C d a u H β name key g K S:=fun S G3 aj hG y g3 g8 ad k=>by
      rw [<-hv] at hG k;have a3:=a2.put mk aP hG;have aU:dl (A::L2) (Zb f2 A (mI gs cs))=(A,mI gs cs)::dl L2 f2:=by
       rw [<-qlr (f:=f2) (z:=mI gs cs) mk];simp only [dl,z7,vh]
      refine⟨y,g3,g8,J,A,gs,cs,(C,.c (qT c++[qZ rows,vint t,mp d,mp a]))::(d,mD G3 aj)::(a,mB (ko name false ab) ai)::dl L2 f2,(H,.c [vint 0,vint 0,vstr qH])::(u,mI g K)::(J,.c [vint (n name key).kind,vint (n name key).n,vstr (n name key).s,mp A])::(A,mI gs cs)::(C,.c (qT c++[qZ rows,vint t,mp d,mp a]))::(d,mD G3 aj)::(a,mB (ko name false ab) ai)::dl L2 f2,ad,aP,by exact qA,by exact qA,by simp only [D,ne_eq,not_false_eq_true,and_self],?_,?_,fun M aa e' ag=>⟨(u,mI M aa)::(C,.c (qT c++[qZ rows,vint t,mp d,mp a]))::(d,mD G3 aj)::(a,mB (ko name false ab) ai)::dl (A::L2) (Zb f2 A (mI gs cs)),?_,G3,aj,ko name false ab,ai,M,aa,A::L2,Zb f2 A (mI gs cs),a3,a1,ag,?_,rfl⟩⟩
      ·rw [k];simp
      ·exact((x8 (l₁:=[_,_]) (l₂:=[_,_])).trans (List.Perm.swap _ _ _)).append_right _
      ·rw [aU];exact(ux (l₁:=[_,_,_,_])).symm
      ·simp only [xb,not_or,D,not_false_eq_true,true_and];exact qD
     cases aO:zy G2 (name,key) with
     | some qd =>
      rw [aO,qA4] at ax;simp only [↓rA,rU,y,g0,g1,g2,g9,ad,D,aA,aK,ax,bl,simprocAttr];exact fin _ (ko (name,key) (jt c rows t n w.body key,A) G2) au (fun p hp=>qCm hp) (by rfl) (by exact qA) (by exact qA) (by exact qA) (by rfl)
     | none =>
      rw [aO,qI9] at ax;simp only [↓rA,rU,y,g0,g1,g2,g9,ad,D,aA,aK,ax,simprocAttr];exact fin _ (G2++[(au,(name,key),(jt c rows t n w.body key,A))]) (au+1) (fun p hp=>(z6.1 hp).imp id fun h=>by rw [kl.1 h];simp) (by rfl) (by exact qA) (by exact qA) (by exact qA) (by refine qB ?_;simp)
  ·rintro S ⟨y,g3,g8,J,j,g2,c2,R0,bs,ad,aq,bt,bu,bg,aR,aM,a8⟩;refine qa ?_;refine fun ib hi=>?_;replace hi:=zS hi;have ay:∀ p ∈ ((j,mI g2 c2)::(J,B.c [vint (n name key).kind,vint (n name key).n,vstr (n name key).s,mp j])::(H,B.c [vint 0,vint 0,vstr qH])::(u,mI g K)::R0),p.1 ≠ ib/\ib ≠ p.1:=fun p hp=>qHs hi p (aR.subset (aM.mem_iff.2 hp));have hx:=And.intro (ay _ (.head _)) (And.intro (ay _ (.tail _ (.head _))) (And.intro (ay _ (.tail _ (.tail _ (.head _)))) (ay _ (.tail _ (.tail _ (.tail _ (.head _)))))));have aY:=h8.1;simp only at hx;have D:=And.intro hx (And.intro bg aY);refine qa ?_;refine jE Ty.mixed (by rfl) (fun x:List Nat × List FID=>(xP g2 x.1).length) (fun x S=>ve (fun q:FID × Unit=>some q.1) g2 x.1 x.2/\(∃ M aa,ug M aa (fun i=>e i∨i ∈ x.2)/\S.boxes=(ib,.it j c2 x.1 c2)::(j,mI g2 c2)::(J,.c [vint (n name key).kind,vint (n name key).n,vstr (n name key).s,mp j])::(H,.c [vint 0,vint 0,vstr qH])::(u,mI M aa)::R0)/\S.rows=[]/\S.σ 3=mp u/\S.σ 8=ptr H/\S.σ 10=ptr J/\S.σ 77=ptr ib) ([],[]) ⟨(ib,.it j c2 [] c2)::bs,[],_,[],?_,?_,aM.cons _,zp _,?_⟩ (fun⟨seen,an⟩ S ⟨aC,⟨M,aa,ag,k⟩,y,g3,g8,ad,br⟩=>?_)
   ·refine qB ?_;exact aR.cons_cons _
   ·simp
   ·refine qB ?_;exact⟨ve.start _,g,K,hs.congr fun i=>⟨.inl,fun h=>h.elim id fun h=>by cases h⟩,rfl⟩
   ·simp only at aC ag k;refine qa ?_;refine⟨fun hl=>?_,fun en he hf=>?_⟩
    ·rw [qU] at hl;have aJ:=aC.done (by simpa [qP] using hl);rw [qn4] at aJ;have av:∀ i,(e i∨i ∈ an)↔(e i∨fi name key i):=fun i=>by rw [aJ.mem_iff,<-Kw,aq.mem i]
     obtain⟨ah,bn,bp⟩:=a8 M aa _ (ag.congr av);refine qa ?_;exact⟨_,(j,mI g2 c2)::(u,mI M aa)::R0,[],Le.refl _,(((zc _).cons _).cons _).cons_cons _ |>.cons _,zn _,⟨rfl,ah,bn,bp⟩,rfl⟩
    ·rw [qU] at he;obtain⟨p,hp,rfl⟩:=x9.1 he;have aQ:=aC.step aq.apart hp;have aL:=xW aq.apart hp;have bx:(seen++[p.1]).getLast? = some p.1:=by simp
     have ac:=zb (cV:=vTt) jn p.2.1 M;have bm:=xI (cV:=vTt) jn p.2.1 () M;rw [ZM] at bm;have av:∀ i,((e i∨i ∈ an)∨i=p.2.1)↔(e i∨i ∈ an++[p.2.1]):=fun i=>by rw [z6,kl,or_assoc]
     simp only at hf;refine qb fun bq aW=>?_;have D:=And.intro D aW;cases hq:zy M p.2.1 with
     | some q =>
      rw [hq,qA4] at ac;refine qa ?_;refine⟨(seen++[p.1],an++[p.2.1]),aL,_,_,_,_,List.Sublist.cons _ (zc _),zc _,zp _,zp _,aQ,⟨M,aa,(ag.old hq).congr av,rfl⟩,?_⟩;exact qA
     | none =>
      rw [hq,qI9] at ac;refine qa ?_;refine⟨(seen++[p.1],an++[p.2.1]),aL,_,_,_,_,List.Sublist.cons _ (zc _),zc _,zp _,zp _,aQ,⟨M++[(aa,p.2.1,())],aa+1,(ag.new hq).congr av,?_⟩,?_⟩
      ·simp only [mI,qP,k8,z7,Jx];rfl
      exact qD
end Go.Proofs.YtimknncpjakckaaGreatDoor
namespace Go.Nv
open Go.VL Go.Ar Go.Lo Go.Nm Go.Sg
theorem qDi {feaI:Str->Str->FID->Prop} {h:Hd} {vs:List Val} {d:List (FID->Prop)} {a:FID->Prop} {key:Str} (k:h.kind=1) (i:FID):¬ idH feaI h vs d a key i:=by unfold idH;simp_all
theorem qDj {feaI:Str->Str->FID->Prop} {h:Hd} {vs:List Val} {d:List (FID->Prop)} {a:FID->Prop} {key:Str} (k:h.kind=3) (i:FID):idH feaI h vs d a key i↔feaI h.name key i:=by unfold idH;simp_all
theorem Ku {feaI:Str->Str->FID->Prop} {h:Hd} {vs:List Val} {d:List (FID->Prop)} {a:FID->Prop} {key:Str} (k:h.kind=4) (i:FID):idH feaI h vs d a key i↔(vs.length=1/\(d.getD 0 (fun _=>False) i∨((vs.getD 0 val0).kind=5/\feaI h.name (vs.getD 0 val0).s i))):=by unfold idH;simp_all
theorem qn3 {feaI:Str->Str->FID->Prop} {h:Hd} {vs:List Val} {d:List (FID->Prop)} {a:FID->Prop} {key:Str} (k:h.kind=5) (i:FID):idH feaI h vs d a key i↔a i:=by unfold idH;simp_all
theorem qn2 {feaI:Str->Str->FID->Prop} {h:Hd} {vs:List Val} {d:List (FID->Prop)} {a:FID->Prop} {key:Str} (e:¬ h.kind=1) (j:¬ h.kind=3) (k:¬ h.kind=4) (n:¬ h.kind=5) (i:FID):idH feaI h vs d a key i↔(xV h.kind ≠ 0/\xV h.kind=vs.length/\(d.getD 0 (fun _=>False) i ∨
  (
    if h.kind=7 then d.getD 1 (fun _=>False) i else if h.kind=8 then (if uH (vs.getD 0 val0) then d.getD 1 (fun _=>False) i else d.getD 2 (fun _=>False) i)
    else h.kind=9/\(vs.getD 0 val0).kind=0/\d.getD 1 (fun _=>False) i))):=by unfold idH;simp_all
end Go.Nv
namespace Go.Proofs.YtimknncpjakckaaGreatDoor
open Go.VL Go.Ar Go.Lo Go.Nv Go.Sg Go.Nm Go.Proofs.YtimknncpjakckaaGreatDoor
def qDh (c:Cat) (rows:List Rw) (t:Int) (d:Str->Str->Val) (a:Str->Str->FID->Prop) (l:List E) (key:Str) (e:FID->Prop) (es:List Nat) (i:FID):Prop:=e i∨∃ k ∈ es,W8 c rows t d a (l.getD k exp0) key i
theorem qxt {c:Cat} {rows:List Rw} {t:Int} {a:Str->Str->Val} {o:Str->Str->FID->Prop} {h:Hd} {l:List E} {key:Str} {e:FID->Prop} (G:¬ h.kind=1) (H:¬ h.kind=3) (I:¬ h.kind=4) (J:¬ h.kind=5) (i:FID) :
  qDh c rows t a o l key e (yq h l.length fun k=>jt c rows t a (l.getD k exp0) key) i↔(e i∨idH o h (l.map fun x=>jt c rows t a x key) (l.map fun x=>W8 c rows t a o x key) (VF c rows t h l key) key i):=by
 have F:∀ k,k < l.length->(l.map fun x=>jt c rows t a x key).getD k val0=jt c rows t a (l.getD k exp0) key:=fun k y=>by
  simp_all
 have p:∀ k,k < l.length->(l.map fun x=>W8 c rows t a o x key).getD k (fun _=>False)=W8 c rows t a o (l.getD k exp0) key:=fun k y=>by
  simp_all
 unfold qDh;rw [qn2 G H I J,zz];refine or_congr qRo ?_;unfold yq;by_cases q:xV h.kind=0∨xV h.kind ≠ l.length
 ·rw [if_pos q];constructor
  ·simp
  omega
 rw [if_neg q];simp only [not_or,ne_eq,Decidable.not_not] at q;obtain⟨w,u⟩:=q;have L:∀ k,xV h.kind=k->0 < k->k=l.length:=fun k y _=>by omega
 have A:0 < l.length:=by omega
 rw [F 0 A,p 0 A];have D:∀ P:Prop,(xV h.kind ≠ 0/\xV h.kind=l.length/\P)↔P:=fun P=>⟨fun h=>h.2.2,fun h=>⟨w,u,h⟩⟩;rw [D];by_cases n:h.kind=6
 ·simp_all
 by_cases d:h.kind=7
 ·have C:1 < l.length:=by rw [<-u];unfold xV;rw [if_neg n,if_pos d];decide
  simp_all
 by_cases j:h.kind=8
 ·have K:2 < l.length:=by rw [<-u];unfold xV;rw [if_neg n,if_neg d,if_pos j];decide
  rw [if_neg n,if_neg d,if_pos j,if_neg d,if_pos j,p 1 (by omega),p 2 K];split <;> simp
 have z:h.kind=9:=by
  unfold xV at w;rw [if_neg n,if_neg d,if_neg j] at w;by_cases z:h.kind=9
  ·omega
  ·simp_all
 have C:1 < l.length:=by rw [<-u];unfold xV;rw [if_neg n,if_neg d,if_neg j,if_pos z];decide
 rw [if_neg n,if_neg d,if_neg j,if_neg d,if_neg j,p 1 C];split
 ·simp_all
 simp_all
def qNy (c:Cat) (rows:List Rw) (t:Int) (w:Str->Str->Val) (u:Str->Str->FID->Prop) (h:Hd) (a:E) (key:Str) (j y x d n k o p q:Nat) (D:Str->Bool) (e:FID->Prop) (v0:Val) (L:Nat->Bool) (S:St):Prop :=
 S.rows=[]/\S.σ 4=ptr n/\S.σ 5=ptr k/\S.σ 6=ptr o/\S.σ 7=ptr p/\S.σ 8=ptr q/\(L 0=true->S.σ 37=ptr j)/\(L 1=true->S.σ 38=pt k 11)/\(L 2=true->S.σ 39=kI [a])/\(L 3=true->S.σ 40=.ref (Go.Lo.cH a.hd (kI a.args)))/\(L 4=true->S.σ 41=.agg (Go.Lo.cH a.hd (kI a.args)))/\(L 5=true->S.σ 42=vstr key)/\(L 6=true->S.σ 43=mp d)/\(L 7=true->S.σ 44=.agg (qS v0)) /\
 ∃ (X W:Bx),S.boxes=[(q,.c [vint 0,vint 0,vstr qH]),(p,.c [mp d]),(o,.c [vstr key]),(k,.c (jP h [a])),(n,.c [ptr j])]++(X++W)/\((L 7=false/\WB c rows t w u j y x d D e W)∨(L 7=true/\WB c rows t w u j y x d D (fun i=>e i∨W8 c rows t w u a key i) W))/\((L 8=false/\L 9=false/\X=[])∨(L 8=true/\∃ b z A C,X=[(b,.c [z,A,C])]/\S.σ 9=ptr b/\Nb b ([(q,.c [vint 0,vint 0,vstr qH]),(p,.c [mp d]),(o,.c [vstr key]),(k,.c (jP h [a])),(n,.c [ptr j])])/\(L 9=true->[z,A,C]=qS v0)))
def qNw (c:Cat) (rows:List Rw) (t:Int) (h:Hd) (l:List E) (key:Str) (a j e k n d o p q:Nat) (g:List (Nat × FID × Unit)) (cl:Nat) (G:List (Nat × (Str × Str) × (Val × Nat))) (y:Nat) (u:List (Nat × Str × Bool)) (x:Nat) (w:List Nat) (f:Nat->B) (tb:Tab) (ok:Bool) (L:Nat->Bool) (S:St):Prop :=
 S.rows=[]/\S.σ 4=ptr n/\S.σ 5=ptr d/\S.σ 6=ptr o/\S.σ 7=ptr p/\S.σ 8=ptr q/\(L 0=true->S.σ 59=ptr a)/\(L 1=true->S.σ 60=ptr a)/\(L 2=true->S.σ 61=pt a 0)/\(L 3=true->S.σ 62=.agg (qT c))/\(L 4=true->S.σ 63=pt d 3)/\(L 5=true->S.σ 64=vstr h.table)/\(L 6=true->S.σ 65=.tup [.agg (cTab tb),qq ok])/\(L 7=true->S.σ 58=.tup [.agg (cTab tb),qq ok])/\(L 8=true->S.σ 66=.agg (cTab tb))/\(L 9=true->S.σ 67=qq ok)/\(L 12=true->S.σ 11=qq ok) /\
 ∃ (X:Bx),S.boxes=[(q,.c [vint 0,vint 0,vstr qH]),(p,.c [mp k]),(o,.c [vstr key]),(d,.c (jP h l)),(n,.c [ptr a]),(k,mI g cl),(a,.c (qT c++[qZ rows,vint t,mp j,mp e])),(j,mD G y),(e,mB u x)]++(X++dl w f)/\((L 10=false/\L 11=false/\X=[])∨(L 10=true/\∃ b z A C D,X=[(b,.c [z,A,C,D])]/\S.σ 10=ptr b/\Nb b ([(q,.c [vint 0,vint 0,vstr qH]),(p,.c [mp k]),(o,.c [vstr key]),(d,.c (jP h l)),(n,.c [ptr a]),(k,mI g cl),(a,.c (qT c++[qZ rows,vint t,mp j,mp e])),(j,mD G y),(e,mB u x)]++dl w f)/\(L 11=true->[z,A,C,D]=cTab tb)))
def Qj (tb:Tab) (a:E) (d:List Rw) (i:Nat):List (List V):=((d.take i).map fun r=>jT tb r a).map qS
theorem qd8 (tb:Tab) (a:E) (d:List Rw) (i:Nat) (h:i < d.length):Qj tb a d (i+1)=Qj tb a d i++[qS (jT tb d[i] a)]:=by
 unfold Qj;rw [zt h,k8,k8];rfl
def qNt (tb:Tab) (a:E) (d:List Rw) (i:Nat) (S:St):Prop:=(i=0/\S.rows=[]/\S.σ 13=nilS)∨∃ y,S.rows=[⟨y,3,32⟩]/\S.σ 13=.list (some y) 3 (Qj tb a d i)
theorem qyh {c:Cat} {rows:List Rw} {t:Int} {q:Str->Str->Val} {w:Str->Str->FID->Prop} {h:Hd} {l:List E} {key:Str} {p z y o:Nat} {A:Str->Bool} {e:FID->Prop} (i:Nat) (I:i < l.length) (a d k n:Nat)
  (hb:(n ≠ k/\k ≠ n)/\(n ≠ d/\d ≠ n)/\(n ≠ a/\a ≠ n)/\(k ≠ d/\d ≠ k)/\(k ≠ a/\a ≠ k)/\(d ≠ a/\a ≠ d)) (W:Bx)
  (hc:Ok prog 35 [ptr p,vE l[i],vstr key,mp o] W fun v x rs=>v=.agg (qS (jt c rows t q l[i] key))/\WB c rows t q w p z y o A (fun j=>e j∨W8 c rows t q w l[i] key j) x/\rs=[]) :
  Ok prog 60 [vint i,ptr a,ptr d,ptr k,ptr n] ((n,.c [mp o])::(k,.c [vstr key])::(d,.c (jP h l))::(a,.c [ptr p])::W) fun v x rs=>v=.agg (qS (jt c rows t q l[i] key))/\(∃ u,WB c rows t q w p z y o A (fun j=>e j∨W8 c rows t q w l[i] key j) u/\x=(n,.c [mp o])::(k,.c [vstr key])::(d,.c (jP h l))::(a,.c [ptr p])::u)/\rs=[]:=by
 rw [vE,qY] at hc;refine Ok.of_exM [(1,4)] Ty.mixed func60 rfl (by simp) (by rfl) fun F L J=>?_;refine qb fun C D=>?_;have H:=And.intro hb D;simp only [↓rA,rU,H,zq,I,qY,simprocAttr];refine qr _ [] (qKy (wl _).symm) (Ok.frame [(C,.c [vint 0,vint 0,vstr qH]),(n,.c [mp o]),(k,.c [vstr key]),(d,.c (jP h l)),(a,.c [ptr p])] hc) ?_;rintro v _ rs ⟨u,rfl,K,rfl,G,rfl⟩;refine qa ?_;exact⟨_,_,[],Le.refl _,(zc _).cons _,zn _,rfl,⟨u,G,rfl⟩,rfl⟩
theorem qob (aA:CalcOk) {c:Cat} {rows:List Rw} {t:Int} {N:Str->Prop} {rk:Str->Nat} {O:Str->Str->Val} {fi:Str->Str->FID->Prop} (hS:qJ9 c rows t N rk O fi) (a6:c.tables.length<=1000000) (a5:0<=t/\t<=1099511627776) (R:Nat) (hF:qmz c rows t N rk O fi R):qAr c rows t N rk O fi R:=by
 intro x
 induction x using E.ind with
 | h h l ih =>
 intro aK ak aW ad key H U T D β e bs hd av z;have a2:=aK.len;have aD:=aK.args;simp only [E.args] at a2 aD;rw [jk] at ak;obtain⟨_,_,aX,aC⟩:=aW;rw [qb7] at ad;rw [qc1,qk7,vE,wI];refine Ok.of_exM [(9,3),(14,3)] Ty.mixed func35 rfl (by simp) (by kernel_rfl) fun F w0 I0=>?_;refine qb fun b4 h4=>?_;refine qb fun b5 h5=>?_;refine qb fun b6 h6=>?_;refine qb fun b7 h7=>?_;refine qb fun b8 h8=>?_;have M:=And.intro h4 (And.intro h5 (And.intro h6 (And.intro h7 h8)));by_cases k1:h.kind=1
 ·have K1:=eq_true k1;rw [qod k1];refine qa ?_;exact⟨_,bs,[],Le.refl _,(((((zc _).cons _).cons _).cons _).cons _).cons _,zn _,rfl,z.congr fun i=>⟨.inl,fun K=>K.elim id fun K=>absurd K (qDi k1 i)⟩,rfl⟩
 by_cases k3:h.kind=3
 ·have K3:=eq_true k3;rw [if_neg k1,if_pos k3] at ad;have aB:=hF h.name (ad _ (by simp)).1 (ad _ (by simp)).2 key H U T D β e bs hd av z;rw [qc2 k3];refine qa ?_;refine qr _ [] (qKy (wl _).symm) (Ok.frame [(b8,.c [vint 0,vint 0,vstr qH]),(b7,.c [mp D]),(b6,.c [vstr key]),(b5,.c (jP h l)),(b4,.c [ptr H])] aB) ?_;rintro v _ rs ⟨W',rfl,ap,rfl,ac,rfl⟩;refine qa ?_;exact⟨_,W',[],Le.refl _,(((((zc _).cons _).cons _).cons _).cons _).cons _,zn _,rfl,ac.congr fun i=>or_congr qRo (qDj k3 i).symm,rfl⟩
 by_cases k4:h.kind=4
 ·have K4:=eq_true k4;have k5:¬ h.kind=5:=by omega
  rw [if_neg k1,if_neg k3,if_neg k5,if_pos k4] at ad;by_cases aZ:l.length=1
  case neg =>
   have be:¬ (l.length:Int)=1:=by omega
   rw [KH k4,if_pos (by rw [zz];omega)];refine qa ?_;exact⟨_,bs,[],Le.refl _,(((((zc _).cons _).cons _).cons _).cons _).cons _,zn _,rfl,z.congr fun i=>⟨.inl,fun K=>K.elim id fun K=>absurd ((Ku k4 i).1 K).1 (by rw [zz];omega)⟩,rfl⟩
  obtain⟨x0,rfl⟩:=List.length_eq_one_iff.1 aZ;have aJ:∀ W,WB c rows t O fi H U T D β e W->Ok prog 35 [ptr H,.agg (Go.Lo.cH x0.hd (kI x0.args)),vstr key,mp D] W fun v bs rs=>v=.agg (qS (jt c rows t O x0 key))/\WB c rows t O fi H U T D β (fun i=>e i∨W8 c rows t O fi x0 key i) bs/\rs=[]:=fun W z=>by
   have:=ih x0 (by simp) (aD x0 (by simp)) (ak.2.mem (by simp)) (aC k5 x0 (by simp)) (fun m hm=>ad m (.tail _ (uS.2 ⟨x0,by simp,hm⟩))) key H U T D β e W hd av z;rw [vE,qY] at this;omega
  simp only [↓rA,rU,M,k1,k3,K4,simprocAttr];refine yp Ty.mixed (by rfl) (by rfl) (qNy c rows t O fi h x0 key H U T D b4 b5 b6 b7 b8 β e (jt c rows t O x0 key)) ?_ ?_ ?_
  ·exact⟨by rfl,by rfl,by rfl,by rfl,by rfl,by rfl,nofun,nofun,nofun,nofun,nofun,nofun,nofun,nofun,[],bs,by rfl,.inl ⟨rfl,z⟩,.inl ⟨rfl,rfl,rfl⟩⟩
  ·intro L S i o1 a o Y ⟨w,p,u,A,C,J,f0,f1,f2,f3,f4,f5,f6,f7,X,W,d,z,I⟩
   match i,a with
   | 0,a =>
    cases a;refine qa ?_;exact lP ⟨w,p,u,A,C,J,fun _=>rfl,f1,f2,f3,f4,f5,f6,f7,X,W,d,z,I⟩
   | 1,a =>
    cases a;refine qa ?_;exact lP ⟨w,p,u,A,C,J,f0,fun _=>rfl,f2,f3,f4,f5,f6,f7,X,W,d,z,I⟩
   | 2,a =>
    cases a;have d1:=f1 (Y ⟨1,.data⟩ (by simp) rfl);refine qa ?_;exact lP ⟨w,p,u,A,C,J,f0,f1,fun _=>rfl,f3,f4,f5,f6,f7,X,W,d,z,I⟩
   | 3,a =>
    cases a;have d2:=f2 (Y ⟨2,.data⟩ (by simp) rfl);simp only [↓rA,rU,d2,qY,simprocAttr];exact lP ⟨w,p,u,A,C,J,f0,f1,f2,fun _=>rfl,f4,f5,f6,f7,X,W,d,z,I⟩
   | 4,a =>
    cases a;have d3:=f3 (Y ⟨3,.data⟩ (by simp) rfl);refine qa ?_;exact lP ⟨w,p,u,A,C,J,f0,f1,f2,f3,fun _=>rfl,f5,f6,f7,X,W,d,z,I⟩
   | 5,a =>
    cases a;refine qa ?_;exact lP ⟨w,p,u,A,C,J,f0,f1,f2,f3,f4,fun _=>rfl,f6,f7,X,W,d,z,I⟩
   | 6,a =>
    cases a;refine qa ?_;exact lP ⟨w,p,u,A,C,J,f0,f1,f2,f3,f4,f5,fun _=>rfl,f7,X,W,d,z,I⟩
   | 7,a =>
    cases a;have d0:=f0 (Y ⟨0,.data⟩ (by simp) rfl);have d4:=f4 (Y ⟨4,.data⟩ (by simp) rfl);have d5:=f5 (Y ⟨5,.data⟩ (by simp) rfl);have d6:=f6 (Y ⟨6,.data⟩ (by simp) rfl);rcases z with⟨_,z⟩ | ⟨q1,_⟩
    case inr=>rw [o] at q1;cases q1
    rcases I with⟨p1,p2,rfl⟩ | ⟨p1,b,u0,u1,u2,rfl,ed,P,hu⟩
    ·refine qa ?_;refine qr _ [] (qKy (wl _).symm) (Ok.frame [(b8,.c [vint 0,vint 0,vstr qH]),(b7,.c [mp D]),(b6,.c [vstr key]),(b5,.c (jP h [x0])),(b4,.c [ptr H])] (aJ W z)) ?_;rintro v _ rs ⟨W',rfl,ap,rfl,ac,rfl⟩;refine qa ?_;exact lP ⟨by rfl,p,u,A,C,J,f0,f1,f2,f3,f4,f5,f6,fun _=>rfl,[],W',rfl,.inr ⟨rfl,ac⟩,.inl ⟨p1,p2,rfl⟩⟩
    ·refine qa ?_;refine qr _ [] (qKy (wl _).symm) (Ok.frame ([(b8,.c [vint 0,vint 0,vstr qH]),(b7,.c [mp D]),(b6,.c [vstr key]),(b5,.c (jP h [x0])),(b4,.c [ptr H])]++[(b,.c [u0,u1,u2])]) (aJ W z)) ?_;rintro v _ rs ⟨W',rfl,ap,rfl,ac,rfl⟩;refine qa ?_;exact lP ⟨by rfl,p,u,A,C,J,f0,f1,f2,f3,f4,f5,f6,fun _=>rfl,[(b,.c [u0,u1,u2])],W',rfl,.inr ⟨rfl,ac⟩,.inr ⟨p1,b,u0,u1,u2,rfl,ed,P,hu⟩⟩
   | 8,a =>
    cases a;rcases I with⟨_,Q,rfl⟩ | ⟨Q,_⟩
    case inr=>rw [o] at Q;cases Q
    simp only [↓rA,rU,w,simprocAttr];refine fun b P=>?_;replace P:=zS P;rw [d,qKv] at P;exact⟨_,_,_,_,zc _,zc _,(show ((b,B.c [vint 0,vint 0,vstr qH])::S.boxes).Perm ([(b8,B.c [vint 0,vint 0,vstr qH]),(b7,B.c [mp D]),(b6,B.c [vstr key]),(b5,B.c (jP h [x0])),(b4,B.c [ptr H])]++([(b,B.c [vint 0,vint 0,vstr qH])]++W)) by rw [d];exact(ux (l₁:=[(b8,B.c [vint 0,vint 0,vstr qH]),(b7,B.c [mp D]),(b6,B.c [vstr key]),(b5,B.c (jP h [x0])),(b4,B.c [ptr H])])).symm),zp _,w,p,u,A,C,J,f0,f1,f2,f3,f4,f5,f6,f7,[(b,.c [vint 0,vint 0,vstr qH])],W,rfl,z,.inr ⟨rfl,b,_,_,_,rfl,rfl,qdw P,fun h=>by rw [show L 9=true from h] at Q;cases Q⟩⟩
   | 9,a =>
    cases a;have l8:=Y ⟨8,.data⟩ (by simp) rfl;have d7:=f7 (Y ⟨7,.data⟩ (by simp) rfl);rcases I with⟨Q,_⟩ | ⟨_,b,u0,u1,u2,rfl,ed,P,_⟩
    ·rw [l8] at Q;cases Q
    have az:=P;simp only [Nb] at az;refine qa ?_;exact lP ⟨by exact qA,p,u,A,C,J,f0,f1,f2,f3,f4,f5,f6,f7,[_],W,rfl,z,.inr ⟨l8,b,_,_,_,rfl,ed,P,fun _=>rfl⟩⟩
  ·intro L S o ⟨w,p,u,A,C,J,f0,f1,f2,f3,f4,f5,f6,f7,X,W,d,z,I⟩;rcases I with⟨Q,_⟩ | ⟨_,b,u0,u1,u2,rfl,ed,P,hu⟩
   ·rw [o 8 (by simp)] at Q;cases Q
   replace hu:=hu (o 9 (by simp));replace f0:=f0 (o 0 (by simp));replace f1:=f1 (o 1 (by simp));replace f2:=f2 (o 2 (by simp));replace f3:=f3 (o 3 (by simp));replace f4:=f4 (o 4 (by simp));replace f5:=f5 (o 5 (by simp));replace f6:=f6 (o 6 (by simp));replace f7:=f7 (o 7 (by simp));rcases z with⟨q1,_⟩ | ⟨_,z⟩
   ·rw [o 7 (by simp)] at q1;cases q1
   simp only [qKi,and_true] at hu;obtain⟨rfl,rfl,rfl⟩:=hu;simp only [List.cons_append,List.nil_append] at d;simp only [Nb] at P;have M:=And.intro M P;by_cases kv:(jt c rows t O x0 key).kind=5
   ·have KV:=eq_true kv;have aB:=hF h.name (ad _ (by simp)).1 (ad _ (by simp)).2 (jt c rows t O x0 key).s H U T D β _ W hd av z;simp only [↓rA,rU,p,u,C,ed,d,M,KV,simprocAttr];refine qr _ [] (qKy (wl _).symm) (Ok.frame [(b8,.c [vint 0,vint 0,vstr qH]),(b7,.c [mp D]),(b6,.c [vstr key]),(b5,.c (jP h [x0])),(b4,.c [ptr H]),(b,.c (qS (jt c rows t O x0 key)))] aB) ?_;rintro v _ rs ⟨W',rfl,ap,rfl,ac,rfl⟩;refine qa ?_;rw [KH k4,if_neg (by simp),if_neg (by exact qD)];refine⟨_,W',[],Le.refl _,((((((zc _).cons _).cons _).cons _).cons _).cons _).cons _,zn _,rfl,ac.congr fun i=>?_,rfl⟩;rw [Ku k4];simp [kv,or_assoc]
   ·refine qa ?_;rw [KH k4,if_neg (by simp),if_pos (by assumption)];refine⟨_,W,[],Le.refl _,((((((zc _).cons _).cons _).cons _).cons _).cons _).cons _,zn _,rfl,z.congr fun i=>?_,rfl⟩;rw [Ku k4];simp [kv]
 by_cases k5:h.kind=5
 ·have K5:=eq_true k5;have ab:=aX k5;obtain⟨G,cd,Gb,cb,g,cl,Ln,f,hM,hB,hs,aO,rfl⟩:=z;clear M;simp only [Nb] at h4 h5 h6 h7 h8;have M:=And.intro hd (And.intro h4 (And.intro h5 (And.intro h6 (And.intro h7 h8))));have ai:=qbv c h.table a6;obtain⟨Z,ok,a4,ai⟩:∃ (Z:Tab) (ok:Bool),((ok=false/\ud c h.table=none)∨(ok=true/\ud c h.table=some Z))/\zk prog 17 [zO c,vstr h.table] (.tup [.agg (cTab Z),qq ok]):=by
   have et:ud c h.table=Q4 c.tables h.table:=rfl;rw [et];cases hq:Q4 c.tables h.table with
   | none=>rw [hq] at ai;exact⟨tab0,false,.inl ⟨rfl,rfl⟩,ai⟩
   | some Z=>rw [hq] at ai;exact⟨Z,true,.inr ⟨rfl,rfl⟩,ai⟩
  simp only [↓rA,rU,M,k1,k3,k4,K5,simprocAttr];refine yp Ty.mixed (by rfl) (by rfl) (qNw c rows t h l key H U T D b4 b5 b6 b7 b8 g cl G cd Gb cb Ln f Z ok) ?_ ?_ ?_
  ·exact⟨by rfl,by rfl,by rfl,by rfl,by rfl,by rfl,nofun,nofun,nofun,nofun,nofun,nofun,nofun,nofun,nofun,nofun,nofun,[],by rfl,.inl ⟨rfl,rfl,rfl⟩⟩
  ·intro L S i o1 a o Y ⟨w,p,u,A,C,J,f0,f1,f2,f3,f4,f5,f6,f7,f8,f9,f12,X,d,I⟩
   match i,a with
   | 0,a =>
    cases a;refine qa ?_;exact lP ⟨w,p,u,A,C,J,fun _=>rfl,f1,f2,f3,f4,f5,f6,f7,f8,f9,f12,X,d,I⟩
   | 1,a =>
    cases a;have d0:=f0 (Y ⟨0,.data⟩ (by simp) rfl);refine qa ?_;exact lP ⟨w,p,u,A,C,J,f0,fun _=>rfl,f2,f3,f4,f5,f6,f7,f8,f9,f12,X,d,I⟩
   | 2,a =>
    cases a;have d1:=f1 (Y ⟨1,.data⟩ (by simp) rfl);refine qa ?_;exact lP ⟨w,p,u,A,C,J,f0,f1,fun _=>rfl,f3,f4,f5,f6,f7,f8,f9,f12,X,d,I⟩
   | 3,a =>
    cases a;have d2:=f2 (Y ⟨2,.data⟩ (by simp) rfl);refine qa ?_;exact lP ⟨w,p,u,A,C,J,f0,f1,f2,fun _=>rfl,f4,f5,f6,f7,f8,f9,f12,X,d,I⟩
   | 4,a =>
    cases a;refine qa ?_;exact lP ⟨w,p,u,A,C,J,f0,f1,f2,f3,fun _=>rfl,f5,f6,f7,f8,f9,f12,X,d,I⟩
   | 5,a =>
    cases a;have d4:=f4 (Y ⟨4,.data⟩ (by simp) rfl);refine qa ?_;exact lP ⟨w,p,u,A,C,J,f0,f1,f2,f3,f4,fun _=>rfl,f6,f7,f8,f9,f12,X,d,I⟩
   | 6,a =>
    cases a;have d3:=f3 (Y ⟨3,.data⟩ (by simp) rfl);have d5:=f5 (Y ⟨5,.data⟩ (by simp) rfl);refine qi _ (ai) ?_;refine qa ?_;exact lP ⟨by rfl,p,u,A,C,J,f0,f1,f2,f3,f4,f5,fun _=>rfl,f7,f8,f9,f12,X,by rfl,I⟩
   | 7,a =>
    cases a;have d6:=f6 (Y ⟨6,.data⟩ (by simp) rfl);refine qa ?_;exact lP ⟨w,p,u,A,C,J,f0,f1,f2,f3,f4,f5,f6,fun _=>rfl,f8,f9,f12,X,d,I⟩
   | 8,a =>
    cases a;have d7:=f7 (Y ⟨7,.data⟩ (by simp) rfl);refine qa ?_;exact lP ⟨w,p,u,A,C,J,f0,f1,f2,f3,f4,f5,f6,f7,fun _=>rfl,f9,f12,X,d,I⟩
   | 9,a =>
    cases a;have d7:=f7 (Y ⟨7,.data⟩ (by simp) rfl);refine qa ?_;exact lP ⟨w,p,u,A,C,J,f0,f1,f2,f3,f4,f5,f6,f7,f8,fun _=>rfl,f12,X,d,I⟩
   | 12,a =>
    cases a;have d9:=f9 (Y ⟨9,.data⟩ (by simp) rfl);refine qa ?_;exact lP ⟨w,p,u,A,C,J,f0,f1,f2,f3,f4,f5,f6,f7,f8,f9,fun _=>rfl,X,d,I⟩
   | 10,a =>
    cases a;rcases I with⟨_,Q,rfl⟩ | ⟨Q,_⟩
    case inr=>rw [o] at Q;cases Q
    simp only [↓rA,rU,w,simprocAttr];refine fun b P=>?_;replace P:=zS P;rw [d,qKv] at P;exact⟨_,_,_,_,zc _,zc _,(show ((b,B.c [vstr qH,vstr qH,nilS,vint 0])::S.boxes).Perm ([(b8,B.c [vint 0,vint 0,vstr qH]),(b7,B.c [mp D]),(b6,B.c [vstr key]),(b5,B.c (jP h l)),(b4,B.c [ptr H]),(D,mI g cl),(H,B.c (qT c++[qZ rows,vint t,mp U,mp T])),(U,mD G cd),(T,mB Gb cb)]++([(b,B.c [vstr qH,vstr qH,nilS,vint 0])]++dl Ln f)) by rw [d];exact(ux (l₁:=[(b8,B.c [vint 0,vint 0,vstr qH]),(b7,B.c [mp D]),(b6,B.c [vstr key]),(b5,B.c (jP h l)),(b4,B.c [ptr H]),(D,mI g cl),(H,B.c (qT c++[qZ rows,vint t,mp U,mp T])),(U,mD G cd),(T,mB Gb cb)])).symm),zp _,w,p,u,A,C,J,f0,f1,f2,f3,f4,f5,f6,f7,f8,f9,f12,[(b,.c [vstr qH,vstr qH,nilS,vint 0])],rfl,.inr ⟨rfl,b,_,_,_,_,rfl,rfl,P,fun h=>by rw [show L 11=true from h] at Q;cases Q⟩⟩
   | 11,a =>
    cases a;have aR:=Y ⟨10,.data⟩ (by simp) rfl;have d8:=f8 (Y ⟨8,.data⟩ (by simp) rfl);rcases I with⟨Q,_⟩ | ⟨_,b,u0,u1,u2,u3,rfl,ed,P,_⟩
    ·rw [aR] at Q;cases Q
    have az:=P;simp only [Nb,List.cons_append,List.nil_append] at az;refine qa ?_;exact lP ⟨by exact qA,p,u,A,C,J,f0,f1,f2,f3,f4,f5,f6,f7,f8,f9,f12,[_],rfl,.inr ⟨aR,b,_,_,_,_,rfl,ed,P,fun _=>rfl⟩⟩
  ·intro L S o ⟨w,p,u,A,C,J,f0,f1,f2,f3,f4,f5,f6,f7,f8,f9,f12,X,d,I⟩;rcases I with⟨Q,_⟩ | ⟨_,b,u0,u1,u2,u3,rfl,ed,P,hu⟩
   ·rw [o 10 (by simp)] at Q;cases Q
   replace hu:=hu (o 11 (by simp));replace f0:=f0 (o 0 (by simp));replace f1:=f1 (o 1 (by simp));replace f2:=f2 (o 2 (by simp));replace f3:=f3 (o 3 (by simp));replace f4:=f4 (o 4 (by simp));replace f5:=f5 (o 5 (by simp));replace f6:=f6 (o 6 (by simp));replace f7:=f7 (o 7 (by simp));replace f8:=f8 (o 8 (by simp));replace f9:=f9 (o 9 (by simp));replace f12:=f12 (o 12 (by simp));simp only [qKi,and_true] at hu;obtain⟨rfl,rfl,rfl,rfl⟩:=hu;simp only [List.cons_append,List.nil_append] at d;simp only [Nb,List.cons_append,List.nil_append] at P;have M:=And.intro M P;obtain⟨aF,rfl⟩:∃ x,x=b:=⟨b,rfl⟩;rcases a4 with⟨rfl,aj⟩ | ⟨rfl,aj⟩
   ·refine qa ?_;have ea:VE c rows t h l key=val0:=by unfold VE;rw [aj]
    rw [qc3 k5,ea];refine⟨_,(D,mI g cl)::(H,.c (qT c++[qZ rows,vint t,mp U,mp T]))::(U,mD G cd)::(T,mB Gb cb)::dl Ln f,[],Le.refl _,(((((((((zc _).cons _).cons_cons _).cons_cons _).cons_cons _).cons_cons _).cons _).cons _).cons _).cons _ |>.cons _,zn _,rfl,WB.congr ⟨G,cd,Gb,cb,g,cl,Ln,f,hM,hB,hs,aO,rfl⟩ fun i=>⟨.inl,fun K=>K.elim id fun K=>?_⟩,rfl⟩;rw [qn3 k5] at K;obtain⟨bh,h1,_⟩:=K;rw [aj] at h1;cases h1
   ·have aP:=qil aA ab.fit h key t ab.win;have an:=fun r (hr:r ∈ zW c rows h l key t)=>JX ab.win hr;have aQ:(zW c rows h l key t).length<=1000:=km JY ab.fit.few;have aT:∀ j,VF c rows t h l key j↔∃ r ∈ zW c rows h l key t,r.id=j:=fun j=>by
     unfold VF;rw [aj];simp
    have aU:VE c rows t h l key=qh1 h ((zW c rows h l key t).map fun r=>jT Z r (l.getD 0 exp0)) ((zW c rows h l key t).map (·.event)) t:=by unfold VE;rw [aj]
    rw [qc3 k5,aU];have aL:∀ j,idH fi h (l.map fun x=>jt c rows t O x key) (l.map fun x=>W8 c rows t O fi x key) (VF c rows t h l key) key j↔∃ r ∈ zW c rows h l key t,r.id=j:=fun j=>(qn3 k5 j).trans (aT j);generalize zW c rows h l key t=n at aP an aQ aL ⊢;simp only [↓rA,rU,p,u,A,f12,d,M,simprocAttr];refine qt _ aP.v ?_;simp only [↓rA,rU,simprocAttr];refine zI Ty.mixed (by kernel_rfl) n.length (fun i S=>∃ g' aa,ug g' aa (fun j=>e j∨∃ r ∈ n.take i,r.id=j)/\S.boxes=(b8,.c [vint 0,vint 0,vstr qH])::(b7,.c [mp D])::(b6,.c [vstr key])::(b5,.c (jP h l))::(b4,.c [ptr H])::(D,mI g' aa)::(H,.c (qT c++[qZ rows,vint t,mp U,mp T]))::(U,mD G cd)::(T,mB Gb cb)::(aF,.c (cTab Z))::dl Ln f/\qNt Z (l.getD 0 exp0) n i S /\
      S.σ 4=ptr b4/\S.σ 5=ptr b5/\S.σ 6=ptr b6/\S.σ 7=ptr b7/\S.σ 8=ptr b8/\S.σ 10=ptr aF/\S.σ 12=qZ n/\S.σ 86=qZ n/\S.σ 87=vint n.length/\S.σ 88=vint i) ⟨_,_,_,_,zc _,zc _,zp _,zp _,?_⟩
      (fun i S hi ⟨g',aa,ah,d,aq,g4,g5,g6,g7,g8,aw,aG,aH,ax,ag⟩=>?_) (fun S ⟨g',aa,ah,d,aq,g4,g5,g6,g7,g8,aw,aG,aH,ax,ag⟩=>?_)
    ·simp only [rU,w,p,u,A,C,J,ed,d,simprocAttr];exact⟨g,cl,hs.congr fun j=>⟨.inl,fun K=>K.elim id fun⟨r,hr,_⟩=>by cases hr⟩,rfl,.inl ⟨rfl,by rfl,by rfl⟩⟩
    ·have au:=qj hi;have al:=an _ (zs hi);obtain⟨a0,a1,rfl⟩:∃ a0 a1,l=[a0,a1]:=by
      match l,al.2.2.2 with
      | [a0,a1],_=>simp
     have a3:Z ∈ c.tables:=qOc aj;have ar:=qb5 aA Z n[i] (ab.fit.flds Z a3) (ab.fit.row _ al.1) a0 (ab.fit.args a0 (by simp)).1 (ab.fit.args a0 (by simp)).2;rw [vE,qY] at ar;have et:n.take (i+1)=n.take i++[n[i]]:=zt hi;have ao:∀ j,((e j∨∃ r ∈ n.take i,r.id=j)∨j=n[i].id)↔(e j∨∃ r ∈ n.take (i+1),r.id=j):=fun j=>by
      rw [et,or_assoc];refine or_congr qRo ?_;constructor
      ·rintro(⟨r,hr,h1⟩ | h1)
       ·exact⟨r,z6.2 (.inl hr),h1⟩
       ·exact⟨_,z6.2 (.inr (kl.2 rfl)),h1.symm⟩
      ·rintro⟨r,hr,h1⟩;rcases z6.1 hr with hr | hr
       ·exact .inl ⟨r,hr,h1⟩
       ·rw [kl.1 hr] at h1;exact .inr h1.symm
     have ae:=zb (cV:=vTt) jn n[i].id g';have aE:=xI (cV:=vTt) jn n[i].id () g';rw [ZM] at aE;simp only [qPl] at aq ⊢;have am:=qd8 Z a0 n i hi;generalize bg:jT Z n[i] a0=va at ar am;rcases aq with⟨hz,w,af⟩ | ⟨y,w,af⟩
     ·simp only [↓rA,rU,w,aH,ax,ag,d,zq,hi,simprocAttr];refine qX fun aS ay=>?_;have M:=And.intro M ay;simp only [↓rA,rU,g5,aw,af,d,M,qY,simprocAttr];refine qt _ ar.v ?_;refine qa ?_;refine jS.l ?_;simp only [↓rA,rU,g7,M,simprocAttr];refine fun y'=>?_;cases hq:zy g' n[i].id with
      | some q =>
       rw [hq,qA4] at ae;simp only [↓rA,rU,ag,M,ae,aE,au,simprocAttr];refine⟨_,_,_,_,List.Sublist.cons _ (zc _),zc _,zp _,zp _,g',aa,(ah.old hq).congr ao,rfl,.inr ⟨y',by exact qA,?_⟩,?_⟩
       ·rw [am,show Qj Z a0 n i=[] by rw [hz];rfl];rfl
       ·exact qA
      | none =>
       rw [hq,qI9] at ae;simp only [↓rA,rU,ag,M,ae,au,simprocAttr];refine⟨_,_,_,_,List.Sublist.cons _ (zc _),zc _,zp _,zp _,g'++[(aa,n[i].id,())],aa+1,(ah.new hq).congr ao,?_,.inr ⟨y',by exact qA,?_⟩,?_⟩
       ·simp only [mI,qP,k8,z7,Jx];rfl
       ·rw [am,show Qj Z a0 n i=[] by rw [hz];rfl];rfl
       ·exact qA
     ·have bf:(Qj Z a0 n i).length<=1000:=by unfold Qj;rw [zz,zz,kB];omega
      refine qn ?_;refine qX fun aS ay=>?_;have M:=And.intro M ay;simp only [↓rA,rU,g5,aw,af,d,M,qY,simprocAttr];refine qt _ ar.v ?_;simp only [↓rA,rU,w,g7,M,qY,simprocAttr];refine⟨by omega,fun y'=>?_⟩;cases hq:zy g' n[i].id with
      | some q =>
       rw [hq,qA4] at ae;simp only [↓rA,rU,ag,M,ae,aE,au,simprocAttr];refine⟨_,_,_,_,List.Sublist.cons _ (zc _),zc _,zp _,zp _,g',aa,(ah.old hq).congr ao,rfl,.inr ⟨y',by rfl,?_⟩,?_⟩
       ·rw [am];rfl
       ·exact qA
      | none =>
       rw [hq,qI9] at ae;simp only [↓rA,rU,ag,M,ae,au,simprocAttr];refine⟨_,_,_,_,List.Sublist.cons _ (zc _),zc _,zp _,zp _,g'++[(aa,n[i].id,())],aa+1,(ah.new hq).congr ao,?_,.inr ⟨y',by rfl,?_⟩,?_⟩
       ·simp only [mI,qP,k8,z7,Jx];rfl
       ·rw [am];rfl
       ·exact qA
    ·rw [qNc] at ah;have a8:∀ v ∈ n.map (fun r=>jT Z r (l.getD 0 exp0)),inW v.n:=fun v hv=>by
      obtain⟨r,hr,rfl⟩:=x9.1 hv;have al:=an r hr
      match l,al.2.2.2,ab,ak with
      | [a0,a1],_,ab,_=>exact qb4 Z r (ab.fit.row r al.1) a0 (ab.fit.args a0 (by simp)).2
     have aI:=qz7 h l (n.map fun r=>jT Z r (l.getD 0 exp0)) n t (zz _) aQ a8 a5 (fun r hr=>⟨(an r hr).2.1,(an r hr).2.2.1⟩) ab.par;generalize qh1 h (n.map fun r=>jT Z r (l.getD 0 exp0)) (n.map (·.event)) t=bc at aI ⊢;have aM:Le (S.σ 13) (xT (n.map fun r=>jT Z r (l.getD 0 exp0))):=by
      rcases aq with⟨hz,_,af⟩ | ⟨y,_,af⟩
      ·rw [af,show n=[] from qMy.1 hz];exact Le.nil 3
      ·rw [af,Qj,qNc];exact Le.list _ _ _
     generalize a7:S.σ 13=v13 at aM;have aY:WB c rows t O fi H U T D β (fun i=>e i∨idH fi h (l.map fun x=>jt c rows t O x key) (l.map fun x=>W8 c rows t O fi x key) (VF c rows t h l key) key i) ((D,mI g' aa)::(H,.c (qT c++[qZ rows,vint t,mp U,mp T]))::(U,mD G cd)::(T,mB Gb cb)::dl Ln f):=WB.congr ⟨G,cd,Gb,cb,g',aa,Ln,f,hM,hB,ah,aO,rfl⟩ fun j=>or_congr qRo (aL j).symm;simp only [↓rA,rU,g4,g5,aG,a7,ax,ag,d,M,zq,WR,simprocAttr];refine qA0 (.cons (Le.refl _) (.cons aM (.cons (Le.refl _) (.cons (Le.refl _) .nil)))) _ aI ?_;simp only [↓rA,rU,g8,d,simprocAttr];exact⟨_,(D,mI g' aa)::(H,.c (qT c++[qZ rows,vint t,mp U,mp T]))::(U,mD G cd)::(T,mB Gb cb)::dl Ln f,[],Le.refl _,(((((((((zc _).cons _).cons_cons _).cons_cons _).cons_cons _).cons_cons _).cons _).cons _).cons _).cons _ |>.cons _,zn _,rfl,aY,rfl⟩
 ·rw [if_neg k1,if_neg k3,if_neg k5,if_neg k4] at ad;have ba:zg prog 60=true:=by kernel_rfl
  have hO:Opd 60 #[.pointer (some ⟨b4,0,none⟩),.pointer (some ⟨b5,0,none⟩),.pointer (some ⟨b6,0,none⟩),.pointer (some ⟨b7,0,none⟩)] l.length (fun k=>jt c rows t O (l.getD k exp0) key) (fun es bs=>∃ W,bs=(b7,.c [mp D])::(b6,.c [vstr key])::(b5,.c (jP h l))::(b4,.c [ptr H])::W/\WB c rows t O fi H U T D β (qDh c rows t O fi l key e es) W):={
   call:=ba
   inw:=fun i=>by
    rw [vk];rcases qNb i l.length with hi | hi
    ·rw [yb hi];exact qlp _ (fun m hm k=>hS.inw m (ad m (uS.2 ⟨_,zs hi,hm⟩)).1 k) (ak.2.mem (zs hi)) (aC k5 _ (zs hi)) key
    ·rw [qMa hi];show inW (jt c rows t O exp0 key).n;unfold exp0;rw [qc1];exact yZ
   ok:=fun i hi es bs ⟨W,aV,z⟩=>by
    subst aV;have hy:=zs hi;have hc:=ih l[i] hy (aD _ hy) (ak.2.mem hy) (aC k5 _ hy) (fun m hm=>ad m (uS.2 ⟨_,hy,hm⟩)) key H U T D β _ W hd av z;have:=qyh (h:=h) (l:=l) i hi b4 b5 b6 b7 (by simp only [M,ne_eq,not_false_eq_true,and_self]) W hc;rw [vk,yb hi];refine Ok.mono this fun v bs rs ⟨h1,⟨W',ac,h2⟩,h3⟩=>⟨h1,⟨W',h2,ac.congr fun j=>?_⟩,h3⟩;unfold qDh;rw [or_assoc];refine or_congr qRo ⟨fun K=>?_,fun⟨k,hk,K⟩=>?_⟩
    ·rcases K with⟨k,hk,K⟩ | K
     ·exact⟨k,z6.2 (.inl hk),K⟩
     ·exact⟨i,z6.2 (.inr (kl.2 rfl)),by rw [vk,yb hi];exact K⟩
    ·rcases z6.1 hk with hk | hk
     ·exact .inl ⟨k,hk,K⟩
     ·rw [kl.1 hk,vk,yb hi] at K;exact .inr K }
  have hs:=Yo aA h l _ _ _ _ hO ((b7,.c [mp D])::(b6,.c [vstr key])::(b5,.c (jP h l))::(b4,.c [ptr H])::bs) ⟨bs,rfl,z.congr fun i=>⟨.inl,fun K=>K.elim id fun⟨k,hk,_⟩=>by cases hk⟩⟩;rw [U4 l fun x=>jt c rows t O x key] at hs;rw [qoc k1 k3 k4 k5];generalize yL h (l.map fun x=>jt c rows t O x key)=bc at hs ⊢;refine qa ?_;refine qr _ [] (qKy (wl _).symm) (Ok.frame [(b8,.c [vint 0,vint 0,vstr qH])] hs) ?_;rintro v _ rs ⟨b1,rfl,ap,rfl,⟨W',rfl,ac⟩,rfl⟩;refine qa ?_;exact⟨_,W',[],Le.refl _,(((((zc _).cons _).cons _).cons _).cons _).cons _,zn _,rfl,ac.congr fun i=>qxt k1 k3 k4 k5 i,rfl⟩
theorem jN (n:Int):zk prog 311 [vint n] (qq (yP n)):=by
 refine oE func311 fun F d a=>?_;refine qa ?_;unfold yP;by_cases h:-1152921504606846976<=n
 ·exact qe (h:=fb (by simp []))
 ·exact qe (h:=fb (by simp []))
theorem qge (n:Int):zk prog 259 [vint n] (vO (QV n)):=by
 have o:IntKind.i64.wrap (-1152921504606)=-1152921504606:=by decide
 refine oE func259 fun F k j=>?_;refine qa ?_;by_cases h:n < -1152921504606
 ·have e:QV n=none:=by unfold QV;rw [if_pos (.inl h)]
  rw [e];exact qe
 by_cases a:1152921504606 < n
 ·have e:QV n=none:=by unfold QV;rw [if_pos (.inr a)]
  rw [e];exact qe
 have e:QV n=some (n * 1000000):=by unfold QV;rw [if_neg fun d=>d.elim h a]
 have w:IntKind.i64.wrap (n * 1000000)=n * 1000000:=qv (by omega) (by omega);rw [e];exact qe
theorem qop (a b:Int):zk prog 260 [vint a,vint b] (vO (wG a b)):=by
 have k:=jN a;have n:=jN b;have o:=jN (a+b);refine oE func260 fun F q p=>?_;refine qi _ k ?_;cases d:yP a
 ·have e:wG a b=none:=by unfold wG;rw [d];rfl
  rw [e];exact qe
 refine qi _ n ?_;cases h:yP b
 ·have e:wG a b=none:=by unfold wG;rw [d,h];rfl
  rw [e];exact qe
 have w:IntKind.i64.wrap (a+b)=a+b:=by
  unfold yP at d h;simp only [k7,decide_eq_true_eq] at d h;exact qv (by omega) (by omega)
 refine qi _ o ?_;cases j:yP (a+b)
 ·have e:wG a b=none:=by unfold wG;rw [d,h,j];rfl
  rw [e];exact qe
 have e:wG a b=some (a+b):=by unfold wG;rw [d,h,j];rfl
 rw [e];exact qe
theorem qBr (a b:Int):zk prog 261 [vint a,vint b] (vO (yQ a b)):=by
 have k:=jN a;have n:=jN b;have j:=qop a (-b);refine oE func261 fun F q p=>?_;refine qi _ k ?_;cases h:yP a
 ·have e:yQ a b=none:=by unfold yQ;rw [h];rfl
  rw [e];exact qe
 refine qi _ n ?_;cases d:yP b
 ·have e:yQ a b=none:=by unfold yQ;rw [h,d];rfl
  rw [e];exact qe
 have e:yQ a b=wG a (-b):=by unfold yQ;rw [h,d];rfl
 have w:IntKind.i64.wrap (0 - b)=-b:=by
  unfold yP at d;simp only [k7,decide_eq_true_eq] at d;rw [qRy];exact qv (by omega) (by omega)
 rw [e];generalize wG a (-b)=o at j;refine qi _ j ?_;exact qe
theorem qcj (n:Int) (h:inW n):zk prog 357 [vint n] (.tup [vu n.natAbs,qq (decide (n < 0))]):=by
 unfold inW at h;refine oE func357 fun F d a=>?_;by_cases c:n < 0
 ·have e:IntKind.u64.wrap (IntKind.i64.wrap (0 - n))=(n.natAbs:Int):=by rw [IntKind.wrap_i64,IntKind.wrap_u64];omega
  rw [decide_eq_true c];exact qe
 ·have e:IntKind.u64.wrap n=(n.natAbs:Int):=by rw [IntKind.wrap_u64];omega
  rw [decide_eq_false c];exact qe
theorem qJ5 (q:Nat) (h:q < 18446744073709551616):IntKind.u64.wrap ((BitVec.ofInt IntKind.u64.bits (q:Int) &&& BitVec.ofInt IntKind.u64.bits 1).toNat:Int)=((q % 2:Nat):Int):=by
 have e:(BitVec.ofInt IntKind.u64.bits (q:Int) &&& BitVec.ofInt IntKind.u64.bits 1).toNat=q % 2:=by
  rw [BitVec.toNat_and,qOn,qOn];show ((q:Int) % 18446744073709551616).toNat &&& ((1:Int) % 18446744073709551616).toNat=q % 2;rw [qQs (by omega) (by omega)];exact Nat.and_one_is_mod q
 rw [e,IntKind.wrap_u64];omega
theorem qnl (a b d:Int) (y:inW a) (hb:inW b) (hd:inW d) (L:d.natAbs<=1152921504606846976):zk prog 312 [vint a,vint b,vint d] (vO (qey a b d)):=by
 have e:=qcj a y;have h:=qcj b hb;have j:=qcj d hd;have w:a.natAbs<=9223372036854775808:=by unfold inW at y;omega
 have x:b.natAbs<=9223372036854775808:=by unfold inW at hb;omega
 unfold qey;simp only [];generalize decide (a < 0)=z at e ⊢;generalize decide (b < 0)=C at h ⊢;generalize decide (d < 0)=G at j ⊢;generalize a.natAbs=A at e w ⊢;generalize b.natAbs=B at h x ⊢;generalize d.natAbs=D at j L ⊢;have n:=qfo (A:Int) (B:Int) (by omega) (by omega) (by omega) (by omega);rw [<-qO4] at n;have J:A * B < 340282366920938463463374607431768211456:=qKu (qMq w x) (by decide);generalize A * B=p at n J ⊢;refine oE func312 fun F w0 M=>?_;refine qi _ e ?_;refine qi _ h ?_;refine qi _ j ?_;refine qi _ n ?_;by_cases c:D<=p / 18446744073709551616
 ·have H:((D:Int)<=(p:Int) / 18446744073709551616)=True:=eq_true (by omega);rw [if_pos c];exact qe
 have H:¬ (D:Int)<=(p:Int) / 18446744073709551616:=by omega
 rw [if_neg c];have o:0 < D:=by omega
 have k:=qgy ((p:Int) / 18446744073709551616) ((p:Int) % 18446744073709551616) D (by omega) (by omega) (by omega) (by omega) (by omega);rw [show (p:Int) / 18446744073709551616 * 18446744073709551616+(p:Int) % 18446744073709551616=(p:Int) by omega] at k;have Z:=qPf p o;have K:p / D < 18446744073709551616:=(qMt o).2 (by omega);rw [show (p:Int) / (D:Int)=((p / D:Nat):Int) from rfl,show (p:Int) % (D:Int)=((p % D:Nat):Int) from rfl] at k;unfold qnm;generalize p / D=q at *;generalize p % D=r at *;have k2:IntKind.u64.wrap (2 * (r:Int))=((2 * r:Nat):Int):=by rw [wU (by omega) (by omega)];omega
 have k3:=qJ5 q K;have k4:IntKind.u64.wrap ((q:Int)+1)=(((q+1) % 18446744073709551616:Nat):Int):=by rw [IntKind.wrap_u64];omega
 refine qi _ k ?_;simp only [↓qJ,↓zx,↓QH,↓zA,↓XQ,zw,qu,kM,vA,wz,wT,QJ,kO,zP,Wh,not_false_eq_true,ne_eq,List.getElem?_cons_zero,List.getElem?_cons_succ,wl,List.toList_toArray,Nat.reduceEqDiff,results312];rw [zu];refine xe (fun S=>S.rows=[]/\S.boxes=[]/\S.σ 9=qq z/\S.σ 11=qq C/\S.σ 13=qq G/\S.σ 16=vu ((if D < 2 * r∨(2 * r=D/\q % 2=1) then (q+1) % 18446744073709551616 else q:Nat):Int)) ?_ ?_
 ·by_cases u:(D:Int) < ((2 * r:Nat):Int)
  ·have N:=eq_true u;rw [if_pos (.inl (by omega))];exact kK
  ·by_cases I:((2 * r:Nat):Int)=(D:Int)
   ·have O:=eq_true I;by_cases P:((q % 2:Nat):Int)=1
    ·rw [if_pos (.inr ⟨by omega,by omega⟩)];exact qnh
    ·rw [if_neg (by omega)];exact qnh
   ·rw [if_neg (by omega)];exact kK
 ·rintro S ⟨Y,X,W,Q,T,U⟩;generalize (if D < 2 * r∨(2 * r=D/\q % 2=1) then (q+1) % 18446744073709551616 else q:Nat)=R at *;by_cases u:(1152921504606846976:Int) < (R:Int)
  ·rw [if_pos (by omega)];exact qe
  ·rw [if_neg (by omega)];have k5:IntKind.i64.wrap (R:Int)=(R:Int):=qv (by omega) (by omega);have k6:IntKind.i64.wrap (0 - (R:Int))=-(R:Int):=by rw [qv (by omega) (by omega)];omega
   cases z <;> cases C <;> cases G
   all_goals
    exact qe
theorem qCl (a b:Int):zk prog 262 [vint a,vint b] (vO (XE a b)):=by
 have e:=jN a;have h:=jN b;refine oE func262 fun F p n=>?_;refine qi _ e ?_;unfold XE;cases j:yP a
 ·exact qe
 refine qi _ h ?_;cases k:yP b
 ·exact qe
 have d:=qnl a b 1000000 (KA j) (KA k) (by unfold inW;decide) (by decide);simp only [Bool.and_self,if_true];generalize qey a b 1000000=o at d ⊢;refine qi _ d ?_;exact qe
theorem qEx (a b:Int):zk prog 263 [vint a,vint b] (vO (XF a b)):=by
 have h:=jN a;have j:=jN b;refine oE func263 fun F q n=>?_;refine qi _ h ?_;unfold XF;cases k:yP a
 ·exact qe
 refine qi _ j ?_;cases d:yP b
 ·exact qe
 by_cases c:b=0
 ·have p:=eq_true c;rw [if_neg (by simp [c])];exact qe
 have e:=qnl a 1000000 b (KA k) (by unfold inW;decide) (KA d) (by
  unfold yP at d;simp only [k7,decide_eq_true_eq] at d;omega)
 rw [if_pos (by simp [c])];generalize qey a 1000000 b=o at e ⊢;refine qi _ e ?_;exact qe
def qN0 (a b:Val) (op:Str) (d e k:Nat) (L:Nat->Bool) (S:St):Prop :=
 S.rows=[]/\S.σ 0=vstr op/\S.σ 4=ptr d/\S.σ 5=ptr e/\S.σ 6=ptr k/\(L 0=true->S.σ 23=pt d 1)/\(L 1=true->S.σ 24=vint a.n)/\(L 2=true->S.σ 25=.agg (cW a.n))/\(L 3=true->S.σ 26=pt e 1)/\(L 4=true->S.σ 27=vint b.n)/\(L 5=true->S.σ 28=.agg (cW b.n)) /\
 ∃ X Y:Bx,S.boxes=[(k,.c [vint 0,vint 0,vstr qH]),(e,.c (qS b)),(d,.c (qS a))]++(X++Y) /\
  ((L 6=false/\L 8=false/\X=[])∨(L 6=true/\∃ n h j,X=[(n,.c [h,j])]/\S.σ 7=ptr n/\Nb n ([(k,.c [vint 0,vint 0,vstr qH]),(e,.c (qS b)),(d,.c (qS a))]++Y)/\(L 8=true->[h,j]=cW a.n))) /\
  ((L 7=false/\L 9=false/\Y=[])∨(L 7=true/\∃ o h j,Y=[(o,.c [h,j])]/\S.σ 8=ptr o/\Nb o [(k,.c [vint 0,vint 0,vstr qH]),(e,.c (qS b)),(d,.c (qS a))]/\(L 9=true->[h,j]=cW b.n)))
theorem qho:CalcOk:=fun op a b ha hb=>by
 have ak:=Xp a.n ha;have al:=Xp b.n hb;have af:=KC a ha;have ah:=ha;have ai:=hb;unfold inW at ah ai;have i1:inW 1:=by unfold inW;decide
 refine Ok.of_exM [(2,3)] Ty.mixed func197 rfl (by simp) (by kernel_rfl) fun F w0 I0=>?_;refine qb fun Q h4=>?_;refine qb fun R h5=>?_;refine qb fun Z h6=>?_;have C:=And.intro h4 (And.intro h5 h6);by_cases k:a.kind=2/\b.kind=2
 ·obtain⟨O,k2⟩:=k;have K1:=eq_true O;have K2:=eq_true k2;have e:Qa op a b=(if op=qCj then XD 2 (a.n+b.n) 1 else if op=qwl then XD 2 (a.n - b.n) 1 else if op=qCi then XD 2 (a.n * b.n) 1 else XD 3 (fineV a) b.n):=by unfold Qa;rw [if_pos ⟨O,k2⟩]
  rw [e];simp only [↓rA,rU,C,K1,K2,simprocAttr];refine yp Ty.mixed (by rfl) (by rfl) (qN0 a b op Q R Z) ?_ ?_ ?_
  ·exact⟨by rfl,by rfl,by rfl,by rfl,by rfl,nofun,nofun,nofun,nofun,nofun,nofun,[],[],by rfl,.inl ⟨rfl,rfl,rfl⟩,.inl ⟨rfl,rfl,rfl⟩⟩
  ·intro L S i G u hL U ⟨q,w,H,I,z,f0,f1,f2,f3,f4,f5,X,Y,d,D,J⟩
   match i,u with
   | 0,u =>
    cases u;refine qa ?_;exact lP ⟨q,w,H,I,z,fun _=>rfl,f1,f2,f3,f4,f5,X,Y,d,D,J⟩
   | 1,u =>
    cases u;have d0:=f0 (U ⟨0,.data⟩ (by simp) rfl);refine qa ?_;exact lP ⟨q,w,H,I,z,f0,fun _=>rfl,f2,f3,f4,f5,X,Y,d,D,J⟩
   | 2,u =>
    cases u;have d1:=f1 (U ⟨1,.data⟩ (by simp) rfl);simp only [↓rA,rU,d1,simprocAttr];refine qo _ ak ?_;simp only [↓rA,rU,q,simprocAttr];exact lP ⟨by rfl,w,H,I,z,f0,f1,fun _=>rfl,f3,f4,f5,X,Y,by exact qA,D,J⟩
   | 3,u =>
    cases u;refine qa ?_;exact lP ⟨q,w,H,I,z,f0,f1,f2,fun _=>rfl,f4,f5,X,Y,d,D,J⟩
   | 4,u =>
    cases u;have d3:=f3 (U ⟨3,.data⟩ (by simp) rfl);refine qa ?_;exact lP ⟨q,w,H,I,z,f0,f1,f2,f3,fun _=>rfl,f5,X,Y,d,D,J⟩
   | 5,u =>
    cases u;have d4:=f4 (U ⟨4,.data⟩ (by simp) rfl);simp only [↓rA,rU,d4,simprocAttr];refine qo _ al ?_;simp only [↓rA,rU,q,simprocAttr];exact lP ⟨by rfl,w,H,I,z,f0,f1,f2,f3,f4,fun _=>rfl,X,Y,by exact qA,D,J⟩
   | 6,u =>
    cases u;rcases D with⟨_,j,rfl⟩ | ⟨j,_⟩
    case inr=>rw [hL] at j;cases j
    simp only [↓rA,rU,q,simprocAttr];refine fun N h7=>?_;replace h7:=zS h7;rw [d,qKv] at h7;refine⟨_,_,_,_,zc _,zc _,(show ((N,B.c [vint 0,.lit (.int .u64 0)])::S.boxes).Perm ([(Z,.c [vint 0,vint 0,vstr qH]),(R,.c (qS b)),(Q,.c (qS a))]++([(N,B.c [vint 0,.lit (.int .u64 0)])]++Y)) by rw [d];exact(ux (l₁:=[_,_,_])).symm),zp _,q,w,H,I,z,f0,f1,f2,f3,f4,f5,[_],Y,rfl,.inr ⟨rfl,N,_,_,rfl,rfl,h7,fun h=>by rw [show L 8=true from h] at j;cases j⟩,J⟩
   | 7,u =>
    cases u;rcases J with⟨_,j,rfl⟩ | ⟨j,_⟩
    case inr=>rw [hL] at j;cases j
    simp only [↓rA,rU,q,simprocAttr];refine fun b8 h8=>?_;replace h8:=zS h8;rw [d,wl] at h8;refine⟨_,_,_,_,zc _,zc _,(show ((b8,B.c [vint 0,.lit (.int .u64 0)])::S.boxes).Perm ([(Z,.c [vint 0,vint 0,vstr qH]),(R,.c (qS b)),(Q,.c (qS a))]++(X++[(b8,B.c [vint 0,.lit (.int .u64 0)])])) by rw [d,wl,<-jm];exact x8 (l₁:=[_])),zp _,q,w,H,I,z,f0,f1,f2,f3,f4,f5,X,[_],rfl,?_,.inr ⟨rfl,b8,_,_,rfl,rfl,qdw h8,fun h=>by rw [show L 9=true from h] at j;cases j⟩⟩;rcases D with D | ⟨q1,N,u0,u1,rfl,T,W,hu⟩
    ·exact .inl D
    ·refine .inr ⟨q1,N,u0,u1,rfl,T,?_,hu⟩;simp only [Nb,List.cons_append,List.nil_append,wl] at W h8 ⊢;simp_all
   | 8,u =>
    cases u;have l6:=U ⟨6,.data⟩ (by simp) rfl;have d2:=f2 (U ⟨2,.data⟩ (by simp) rfl);rcases D with⟨j,_⟩ | ⟨_,N,u0,u1,rfl,T,W,_⟩
    ·rw [l6] at j;cases j
    have ag:=W;simp only [Nb,List.cons_append,List.nil_append] at ag;refine qa ?_;exact lP ⟨q,w,H,I,z,f0,f1,f2,f3,f4,f5,[_],Y,rfl,.inr ⟨l6,N,_,_,rfl,T,W,fun _=>rfl⟩,J⟩
   | 9,u =>
    cases u;have l7:=U ⟨7,.data⟩ (by simp) rfl;have d5:=f5 (U ⟨5,.data⟩ (by simp) rfl);rcases J with⟨j,_⟩ | ⟨_,b8,u0,u1,rfl,e8,W,_⟩
    ·rw [l7] at j;cases j
    have ag:=W;simp only [Nb] at ag;rcases D with⟨q1,q2,rfl⟩ | ⟨q1,N,w0,w1,rfl,T,ac,hu⟩
    ·refine qa ?_;exact lP ⟨q,w,H,I,z,f0,f1,f2,f3,f4,f5,[],[_],rfl,.inl ⟨q1,q2,rfl⟩,.inr ⟨l7,b8,_,_,rfl,e8,W,fun _=>rfl⟩⟩
    ·have ad:=ac;simp only [Nb,List.cons_append,List.nil_append] at ad;refine qa ?_;exact lP ⟨q,w,H,I,z,f0,f1,f2,f3,f4,f5,[_],[_],rfl,.inr ⟨q1,N,_,_,rfl,T,ac,hu⟩,.inr ⟨l7,b8,_,_,rfl,e8,W,fun _=>rfl⟩⟩
  intro L S hL ⟨q,w,H,I,z,f0,f1,f2,f3,f4,f5,X,Y,d,D,J⟩;rcases D with⟨j,_⟩ | ⟨_,N,w0,w1,rfl,T,ac,am⟩
  ·rw [hL 6 (by simp)] at j;cases j
  rcases J with⟨j,_⟩ | ⟨_,b8,u0,u1,rfl,e8,ad,an⟩
  ·rw [hL 7 (by simp)] at j;cases j
  have q7:=am (hL 8 (by simp));have q8:=an (hL 9 (by simp));simp only [qKi,and_true] at q7 q8;obtain⟨rfl,rfl⟩:=q7;obtain⟨rfl,rfl⟩:=q8;simp only [Nb,List.cons_append,List.nil_append] at ac ad;have C:=And.intro C (And.intro ac ad);by_cases G:op=(⟨#[43]⟩:Str)
  ·have O1:=eq_true G;rw [if_pos G];simp only [↓rA,rU,C,w,d,T,e8,O1,simprocAttr];refine qo _ (XX _ _) ?_;rw [ui (show ki (a.n+b.n) by unfold ki;omega)];simp only [↓rA,rU,q,simprocAttr];refine qo _ (wF 2 _ 1 (by omega) i1) ?_;simp only [↓rA,rU,q,z,simprocAttr];exact qc rfl
  rw [if_neg G];by_cases M:op=(⟨#[45]⟩:Str)
  ·have O2:=eq_true M;rw [if_pos M];simp only [↓rA,rU,C,w,d,T,e8,G,O2,simprocAttr];refine qo _ (qm6 _ _) ?_;rw [ui (show ki (a.n - b.n) by unfold ki;omega)];simp only [↓rA,rU,q,simprocAttr];refine qo _ (wF 2 _ 1 (by omega) i1) ?_;simp only [↓rA,rU,q,z,simprocAttr];exact qc rfl
  rw [if_neg M];by_cases P:op=(⟨#[42]⟩:Str)
  ·have O3:=eq_true P;have hp:(a.n * b.n).natAbs<=85070591730234615865843651857942052864:=by
    rw [Int.natAbs_mul];exact km (qMq (show a.n.natAbs<=9223372036854775808 by omega) (show b.n.natAbs<=9223372036854775808 by omega)) (by decide)
   rw [if_pos P];simp only [↓rA,rU,C,w,H,I,d,G,M,O3,simprocAttr];refine qo _ (qm9 _ _ ha hb) ?_;rw [ui (show ki (a.n * b.n) by unfold ki;omega)];simp only [↓rA,rU,q,simprocAttr];refine qo _ (wF 2 _ 1 (by omega) i1) ?_;simp only [↓rA,rU,q,z,simprocAttr];exact qc rfl
  rw [if_neg P];simp only [↓rA,rU,C,w,H,d,G,M,P,simprocAttr];refine qt _ af.v ?_;refine qa ?_;refine qt _ (zk.v (wF 3 (fineV a) b.n (by unfold fineV;omega) hb)) ?_;simp only [↓rA,rU,q,z,d,simprocAttr];exact qc rfl
 ·have e:∀ x y,Jv a=some x->Jv b=some y->Qa op a b=Zm 3 (if op=qCj then wG x y else if op=qwl then yQ x y else if op=qCi then XE x y else if op=qLf then XF x y else none):=fun x y hx hy=>by unfold Qa;simp_all
  have e1:Jv a=none->Qa op a b=val0:=fun hx=>by unfold Qa;simp_all
  have e2:Jv b=none->Qa op a b=val0:=fun hx=>by
   unfold Qa;simp_all
  have af:=qge a.n;have aj:=qge b.n;simp only [↓qJ,z7,Jx,List.toList_toArray,results197];rw [zu];refine xe (fun S=>S.boxes=[(Z,.c [vint 0,vint 0,vstr qH]),(R,.c (qS b)),(Q,.c (qS a))]/\S.σ 0=vstr op/\S.σ 4=ptr Q/\S.σ 5=ptr R/\S.σ 6=ptr Z) ?_ ?_
  ·by_cases O:a.kind=2
   ·have k2:¬ b.kind=2:=fun h=>k ⟨O,h⟩;have K1:=eq_true O;exact kK
   ·exact kK
  rintro S ⟨pb,p0,p4,p5,p6⟩;have w1:IntKind.i64.wrap 1=1:=by decide
  have w2:IntKind.i64.wrap 2=2:=by decide
  refine qa ?_;refine fun y=>?_;refine zI Ty.mixed (by rfl) 2 (fun i S=>∃ n p:Val,S.boxes=[(Z,.c [vint 0,vint 0,vstr qH]),(R,.c (qS p)),(Q,.c (qS n))]/\(i=0->n=a)/\(0 < i->Jv a=some n.n)/\(i < 2->p=b)/\(i=2->Jv b=some p.n)/\S.σ 0=vstr op/\S.σ 4=ptr Q/\S.σ 5=ptr R/\S.σ 6=ptr Z/\S.σ 55=.list (some y) 1 [[ptr Q],[ptr R]]/\S.σ 56=vint 2/\S.σ 57=vint i) ⟨_,_,_,_,zc _,zc _,zp _,zp _,?_⟩ (fun i S hi ⟨n,p,d,i1,i2,i3,i4,g0,g4,g5,g6,ae,aa,A⟩=>?_) (fun S ⟨n,p,d,i1,i2,i3,i4,g0,g4,g5,g6,ae,aa,A⟩=>?_)
  ·refine qB ?_;simp
  ·rcases(show i=0∨i=1 by omega) with rfl | rfl
   ·obtain rfl:=i1 rfl;obtain rfl:=i3 (by decide);have A:S.σ 57=vint 0:=A;by_cases O:n.kind=2
    ·have K1:=eq_true O;have ea:Jv n=QV n.n:=if_pos O;refine qi _ af ?_;cases ab:QV n.n with
     | none =>
      rw [e1 (ea.trans ab)];exact qe
     | some x =>
      simp only [↓rA,rU,C,A,w1,simprocAttr];refine lP ⟨⟨3,x,qH⟩,p,rfl,fun h=>absurd h (by decide),fun _=>ea.trans ab,fun _=>rfl,fun h=>absurd h (by decide),?_⟩;exact qA
    ·have ea:Jv n=some n.n:=if_neg O;simp only [↓rA,rU,C,d,ae,aa,A,O,w1,simprocAttr];refine lP ⟨n,p,d,fun h=>absurd h (by decide),fun _=>ea,fun _=>rfl,fun h=>absurd h (by decide),?_⟩;exact qA
   ·obtain rfl:=i3 (by decide);have hx:=i2 (by decide);have A:S.σ 57=vint 1:=A;by_cases kb:p.kind=2
    ·have KB:=eq_true kb;have eb:Jv p=QV p.n:=if_pos kb;refine qi _ aj ?_;cases ab:QV p.n with
     | none =>
      rw [e2 (eb.trans ab)];exact qe
     | some x =>
      simp only [↓rA,rU,C,A,w2,simprocAttr];refine lP ⟨n,⟨3,x,qH⟩,rfl,fun h=>absurd h (by decide),fun _=>hx,fun h=>absurd h (by decide),fun _=>eb.trans ab,?_⟩;exact qA
    ·have eb:Jv p=some p.n:=if_neg kb;simp only [↓rA,rU,C,d,ae,aa,A,kb,w2,simprocAttr];refine lP ⟨n,p,d,fun h=>absurd h (by decide),fun _=>hx,fun h=>absurd h (by decide),fun _=>eb,?_⟩;exact qA
  ·have hx:=i2 (by decide);have hy:=i4 rfl;have A:S.σ 57=vint 2:=A;rw [e _ _ hx hy];have fin:∀ o:Option Int,Zm 3 (if o.isSome=true then some (o.getD 0) else none)=Zm 3 o:=fun o=>by cases o <;> rfl
   by_cases G:op=(⟨#[43]⟩:Str)
   ·have O1:=eq_true G;rw [if_pos G];have K:=qop n.n p.n;generalize wG n.n p.n=o at K ⊢;simp only [↓rA,rU,C,d,g0,g4,g5,aa,A,O1,simprocAttr];refine qo _ K ?_;refine qi _ (yy 3 (o.getD 0) o.isSome) ?_;rw [fin];exact qe
   rw [if_neg G];by_cases M:op=(⟨#[45]⟩:Str)
   ·have O2:=eq_true M;rw [if_pos M];have K:=qBr n.n p.n;generalize yQ n.n p.n=o at K ⊢;simp only [↓rA,rU,C,d,g0,g4,g5,aa,A,G,O2,simprocAttr];refine qo _ K ?_;refine qi _ (yy 3 (o.getD 0) o.isSome) ?_;rw [fin];exact qe
   rw [if_neg M];by_cases P:op=(⟨#[42]⟩:Str)
   ·have O3:=eq_true P;rw [if_pos P];have K:=qCl n.n p.n;generalize XE n.n p.n=o at K ⊢;simp only [↓rA,rU,C,d,g0,g4,g5,aa,A,G,M,O3,simprocAttr];refine qo _ K ?_;refine qi _ (yy 3 (o.getD 0) o.isSome) ?_;rw [fin];exact qe
   rw [if_neg P];by_cases o4:op=(⟨#[47]⟩:Str)
   ·have O4:=eq_true o4;rw [if_pos o4];have K:=qEx n.n p.n;generalize XF n.n p.n=o at K ⊢;simp only [↓rA,rU,C,d,g0,g4,g5,aa,A,G,M,P,O4,simprocAttr];refine qo _ K ?_;refine qi _ (yy 3 (o.getD 0) o.isSome) ?_;rw [fin];exact qe
   rw [if_neg o4];refine qi _ (yy 3 0 false) ?_;exact qe
end Go.Proofs.YtimknncpjakckaaGreatDoor
namespace Go.Proofs.YtimknncpjakckaaGreatDoor
open Go.VL Go.Ar Go.Lo Go.Nv Go.Sg Go.Nm Go.Proofs.YtimknncpjakckaaGreatDoor Go.Proofs.YtimknncpjakckaaGreatDoor.Arr
structure VW (c:Cat) (rows:List Rw) (t:Int) (N:Str->Prop) (rk:Str->Nat) (fv:Str->Str->Val) (fi:Str->Str->FID->Prop):Prop where
 sol:qJ9 c rows t N rk fv fi
 feats:c.features.length<=Go.Proofs.YtimknncpjakckaaGreatDoor.big
 tabs:c.tables.length<=1000000
 tick:0<=t/\t<=1099511627776
structure VS (c:Cat) (rows:List Rw) (N:Str->Prop) (rk:Str->Nat) (R:Nat) (x:E):Prop where
 fit:uh x
 lit:jk x
 ev:Jj c rows x
 ref:∀ m ∈ Ub x,N m/\rk m < R
theorem qyb {c:Cat} {rows:List Rw} {t:Int} {N:Str->Prop} {j:Str->Nat} {e:Str->Str->Val} {d:Str->Str->FID->Prop} (h:VW c rows t N j e d) (R:Nat):qmz c rows t N j e d R:=by
 induction R using Nat.strongRecOn with
 | _ R n=>exact qDy h.sol h.feats R fun a k=>qob qho h.sol h.tabs h.tick a (n a k)
theorem qbt {t:Int} (h:0<=t/\t<=1099511627776):jb t=true:=by unfold jb;simp_all
theorem qht {c:Cat} {rows:List Rw} {t:Int} {N:Str->Prop} {y:Str->Nat} {d:Str->Str->Val} {q:Str->Str->FID->Prop} (h:VW c rows t N y d q) {R:Nat} {x:E} (e:VS c rows N y R x) (key:Str) :
  Ok prog 18 [zO c,qZ rows,vE x,vstr key,vint t] [] fun v G rs=>(∃ a g cl,v=.agg [vint (jt c rows t d x key).kind,vint (jt c rows t d x key).n,vstr (jt c rows t d x key).s,Lo.mp a]/\G=[(a,mI g cl)]/\ug g cl (W8 c rows t d q x key))/\rs=[]:=by
 have u:=qob qho h.sol h.tabs h.tick R (qyb h R) x e.fit e.lit e.ev e.ref key;have w:=qec t;rw [qbt h.tick] at w;rw [vE,qY] at u ⊢;refine oE func18 fun F w0 U=>?_;refine qb fun C J=>?_;refine qb fun D K=>?_;refine qb fun z H=>?_;refine qb fun a O=>?_;refine qB ?_;refine qX fun A I=>?_;have n:=And.intro J (And.intro K (And.intro H (And.intro O I)));refine qi _ w ?_;refine qb fun k hd=>?_;refine qB ?_;refine qX fun j L=>?_;refine qB ?_;refine qX fun o Q=>?_;have n:=And.intro n (And.intro hd (And.intro L Q));have M:=u o k j a (fun _=>false) (fun _=>False) [(a,mI [] 0),(o,.c (qT c++[qZ rows,vint t,Lo.mp k,Lo.mp j])),(k,mD [] 0),(j,mB [] 0)] (by unfold Ap4;simp only [n,ne_eq,not_false_eq_true,and_self]) (fun _ _ _=>rfl) ⟨[],0,[],0,[],0,[],fun _=>.c [],UB.nil _ _ _,fun _=>rfl,ug.nil,⟨y8,y8,y8,y8⟩,rfl⟩;refine qa ?_;refine qr _ [] ?_ (Ok.frame [(A,.c [vint 0,vint 0,vstr qH,Lo.mp a]),(z,.c [vint 0,vint 0,vstr qH,.lit (.map none)]),(D,.c (Go.Lo.cH x.hd (kI x.args))),(C,.c (qT c))] M) ?_
 ·rw [wl];exact(x8 (l₁:=[_,_,_]) (l₂:=[_,_,_,_,_])).trans (((ux (l₁:=[_,_,_])).symm.trans ((List.Perm.swap _ _ []).append_left [_,_,_,_,_])).cons _)
 rintro v _ rs ⟨X,rfl,ac,rfl,⟨S,Z,T,Y,gs,p,W,f2,ab,aa,P,_,rfl⟩,rfl⟩;refine qa ?_;exact⟨_,[(a,mI gs p)],[],Le.refl _,((((List.Sublist.cons_cons _ (zn _)).cons _).cons _).cons _).cons _,zn _,⟨a,gs,p,rfl,rfl,P.congr fun i=>⟨fun h=>h.elim (fun h=>h.elim) id,.inr⟩⟩,rfl⟩
theorem yC {c:Cat} {rows:List Rw} {t:Int} {N:Str->Prop} {o:Str->Nat} {k:Str->Str->Val} {p:Str->Str->FID->Prop} (h:VW c rows t N o k p) {R:Nat} {x:E} (z:VS c rows N o R x) (key:Str) :
  zk prog 8 [zO c,qZ rows,vE x,vstr key,vint t] (.agg (qS (jt c rows t k x key))):=by
 have n:=qht h z key;rw [vE,qY] at n ⊢;generalize jt c rows t k x key=J at n ⊢;refine oE func8 fun F L A=>?_;refine qb fun e u=>?_;refine qb fun j w=>?_;refine qb fun d q=>?_;have G:=And.intro u (And.intro w q);refine qa ?_;refine zB [] _ (zp _) n ?_;rintro v C K ⟨⟨a,g,D,rfl,rfl,I⟩,rfl⟩ y;have H:(a ≠ d/\d ≠ a)/\(a ≠ j/\j ≠ a)/\(a ≠ e/\e ≠ a):=by
  have:a ∉ [d,j,e]:=(js.1 y).1;simp only [xb,y8,or_false,not_or] at this;exact⟨⟨this.1,qKh this.1⟩,⟨this.2.1,qKh this.2.1⟩,⟨this.2.2,qKh this.2.2⟩⟩
 exact qe
theorem qgp {c:Cat} {rows:List Rw} {t:Int} {N:Str->Prop} {j:Str->Nat} {a:Str->Str->Val} {k:Str->Str->FID->Prop} (h:VW c rows t N j a k) {R:Nat} {f:Ftr} {name:Str} (n:xl c.features name=some f) (o:VS c rows N j R f.body) (key:Str) :
  zk prog 23 [zO c,qZ rows,vstr name,vstr key,vint t] (.tup [.agg (qS (jt c rows t a f.body key)),vint 0]):=by
 have d:=yC h o key;have e:=Y6 c name h.feats;rw [n] at e;simp only [J4,qs] at e;rw [vE,qY] at d;generalize jt c rows t a f.body key=A at d ⊢;refine oE func23 fun F C p=>?_;refine qb fun w z=>?_;refine qb fun q x=>?_;refine qi _ e ?_;refine qb fun u y=>?_;refine qi _ d ?_;exact qe
theorem qpq:zk prog 40 [nilS,.lit (.func (.func 41) #[] #[])] (.tup []):=Ok.sortNil Tryz.sortF 0 _
theorem qpr (l:List FID) (rest:List V) (b cap:Nat) (e:l.length < 4611686018427387904) :
  Ok prog 40 [.lit (.slice (some ⟨b,0,none⟩) l.length cap),.lit (.func (.func 41) #[] #[])] [(b,.c ((l.map Qc).flatten++rest))] fun v d rs =>
   v=.tup []/\rs=[]/\∃ a:List FID,a.Perm l/\a.Pairwise (fun x y=>¬ cmpID y x < 0)/\d=[(b,.c ((a.map Qc).flatten++rest))] :=
 Ok.sortFunc Tryz.sortF (k:=2) isAgg64 sizeOf64 Qc (fun _=>rfl) cmpID (qcb uT) (g:=41) (enters_of func41 (by rfl) rfl) l
  (fun x h y j=>qhi x y) rest b cap e
theorem qgn (l:List FID):(l.map Qc).flatten.length=l.length * 2:=by
 induction l with
 | nil=>rfl
 | cons x l a=>simp only [z7,List.flatten_cons,zr,a,List.length_cons,List.length_nil];omega
abbrev qou (l:List FID):Prop:=l.Pairwise fun a b=>cmpID a b < 0
theorem qv3 {l m:List FID} (n:qou l) (o:m.Nodup) (p:m.Pairwise fun x y=>¬ cmpID y x < 0) (k:∀ i,i ∈ m↔i ∈ l):m=l:=by
 refine Zg (R:=fun a b=>cmpID a b < 0) (fun a b d j=>?_) ?_ n k
 ·have:=uT.anti a b;omega
 ·refine(p.and o).imp fun {x y} h=>?_;have d:=uT.anti x y;have j:¬ cmpID x y=0:=fun e=>h.2 (ZW.1 e);omega
theorem qbd {c:Cat} {rows:List Rw} {t:Int} {N:Str->Prop} {rk:Str->Nat} {M:Str->Str->Val} {fi:Str->Str->FID->Prop} (h:VW c rows t N rk M fi) {R:Nat} {z:E} (hx:VS c rows N rk R z) (key:Str) (l:List FID) (hl:qou l) (hm:∀ i,i ∈ l↔W8 c rows t M fi z key i) (an:l.length<=1000000) :
  zk prog 24 [zO c,qZ rows,vE z,vstr key,vint t] (qd9 l):=by
 have d:=qht h hx key;rw [vE,qY] at d ⊢;generalize jt c rows t M z key=ao at d;refine Ok.mono (Ok.boxP (k:=2) (p:=fun es=>es=l.map Qc) (fun es h e u=>by rw [h] at u;obtain⟨r,_,rfl⟩:=x9.1 u;rfl) ?_) fun v Z rs ⟨⟨es,u,hv⟩,h1,h2⟩=>⟨by simp_all,h1,h2⟩;refine oE func24 fun F w0 I0=>?_;refine qb fun A h5=>?_;refine qb fun C h7=>?_;have j:=And.intro h5 h7;refine qa ?_;refine zB [] _ (zp _) d ?_;rintro v Z rs ⟨⟨a,g,D,rfl,rfl,H⟩,rfl⟩ hN;have U:(a ≠ C/\C ≠ a)/\(a ≠ A/\A ≠ a):=by
  have:a ∉ [C,A]:=(js.1 hN).1;simp only [xb,y8,or_false,not_or] at this;exact⟨⟨this.1,qKh this.1⟩,⟨this.2,qKh this.2⟩⟩
 have j:=And.intro j U;have ad:(g.map fun p=>p.2.1).Nodup:=(List.pairwise_map.2 (H.apart.imp fun {p q} h=>h.2));have ab:∀ i,i ∈ (g.map fun p=>p.2.1)↔i ∈ l:=fun i=>by rw [<-Kw,H.mem i,hm i]
 have am:g.length<=1000000:=by
  have e1:(g.map fun p=>p.2.1).length<=l.length:=List.Nodup.length_le_of_subset ad fun i U=>(ab i).1 U;rw [zz] at e1;omega
 refine qa ?_;refine fun K L=>?_;replace L:=zS L;try simp only [Nb] at L
 have j:=And.intro j L;refine qa ?_;refine jE Ty.mixed (by rfl) (fun x:List Nat × List FID=>(xP g x.1).length) (fun x S=>ve (fun q:FID × Unit=>some q.1) g x.1 x.2/\S.rows=[]/\S.σ 19=ptr K/\((x.2=[]/\S.σ 10=nilS/\S.boxes=[(K,.it a D x.1 D),(a,mI g D),(C,.c (Go.Lo.cH z.hd (kI z.args))),(A,.c (qT c))]) ∨
  ∃ b o,(x.2.length<=o/\(b ≠ K/\K ≠ b)/\(b ≠ a/\a ≠ b)/\(b ≠ C/\C ≠ b)/\(b ≠ A/\A ≠ b))/\S.σ 10=.lit (.slice (some ⟨b,0,none⟩) x.2.length o)/\S.boxes=[(b,.c ((x.2.map Qc).flatten++zC ((o - x.2.length) * 2))),(K,.it a D x.1 D),(a,mI g D),(C,.c (Go.Lo.cH z.hd (kI z.args))),(A,.c (qT c))])) ([],[]) ⟨_,_,_,_,zc _,zc _,zp _,zp _,?_⟩ (fun⟨seen,I⟩ S ⟨J,gr,aj,aa⟩=>?_)
 ·exact⟨ve.start _,by rfl,by rfl,.inl ⟨rfl,by rfl,by rfl⟩⟩
 simp only at J aa;have ak:=J.len;have fin:∀ m:List FID,xP g seen=[]->m.Perm I->m.Pairwise (fun x y=>¬ cmpID y x < 0)->m=l:=fun m G n X=>by
  have Q:=J.done G;rw [qn4] at Q;exact qv3 hl ((n.trans Q).nodup_iff.2 ad) X fun i=>((n.trans Q).mem_iff).trans (ab i)
 rcases aa with⟨ag,af,gb⟩ | ⟨b,o,⟨ai,P⟩,af,gb⟩
 ·subst ag;refine qa ?_;refine⟨fun G=>?_,fun e u T=>?_⟩
  ·rw [qU] at G;have e:=fin [] (by simp_all) (zp _) List.Pairwise.nil;refine qi _ qpq ?_;refine qa ?_;exact r0 ⟨rfl,_,rfl,.inl ⟨by rw [<-e];rfl,rfl,rfl⟩⟩
  ·rw [qU] at u;obtain⟨p,n,rfl⟩:=x9.1 u;have Y:=J.step H.apart n;have W:=xW H.apart n;have ah:(seen++[p.1]).getLast? = some p.1:=by simp
   simp only at T;refine qb fun ae O=>?_;have j:=And.intro j O;refine qa ?_;refine fun y=>jS.r ?_;refine qa ?_;refine fun b o d hc=>?_;replace d:=zS d;simp only [Nb] at d;refine qa ?_;refine⟨(seen++[p.1],[p.2.1]),W,_,[],_,[],List.Sublist.cons_cons _ (List.Sublist.cons _ (zc _)),zn _,zp _,zp _,Y,rfl,by exact qA,.inr ⟨b,o,⟨hc,d.2.1.symm,d.2.2.1.symm,d.2.2.2.1.symm,d.2.2.2.2.1.symm⟩,by rfl,rfl⟩⟩
 ·refine qa ?_;refine⟨fun G=>?_,fun e u T=>?_⟩
  ·rw [qU] at G;refine qa ?_;refine qr [_] [_,_,_,_] (zp _) (qpr I (zC ((o - I.length) * 2)) b o (by omega)) ?_;rintro v Z rs ⟨rfl,rfl,l',n,X,rfl⟩;refine qa ?_;have e:=fin l' (by simpa [qP] using G) n X;subst e;have ac:=n.length_eq;exact⟨_,[_],[],Le.refl _,List.Sublist.cons_cons _ (zn _),zn _,rfl,_,rfl,.inr ⟨b,o,_,by rw [zz,ac];omega,by rw [zz,ac],rfl⟩⟩
  ·rw [qU] at u;obtain⟨p,n,rfl⟩:=x9.1 u;have Y:=J.step H.apart n;have W:=xW H.apart n;have ah:(seen++[p.1]).getLast? = some p.1:=by simp
   simp only at T;refine qb fun ae O=>?_;have j:=And.intro j O;refine qa ?_;refine fun y=>jS.r ?_;simp only [↓rA,rU,gb,gr,j,P,simprocAttr];refine⟨⟨by rw [zr,qgn,xC,<-uu];omega,ai,by omega⟩,fun b' c' w al=>?_⟩;simp only [wo,J0,decide_true,qL3,kA,if_false,List.filter_nil,j,P,decide_false,qMw,if_true] at w ⊢;replace w:=zS w;simp only [Nb] at w;simp only [↓rA,rU,j,P,simprocAttr];refine⟨(seen++[p.1],I++[p.2.1]),W,_,[],_,[],List.Sublist.cons_cons _ (List.Sublist.cons _ (zc _)),zn _,zp _,zp _,Y,rfl,by exact qA,.inr ⟨b',c',⟨by rw [zr];omega,w.2.1.symm,w.2.2.1.symm,w.2.2.2.1.symm,w.2.2.2.2.1.symm⟩,by simp only [rU,zr,simprocAttr],?_⟩⟩;show _::_=_::_;rw [qBf (qgn I),zr,k8,qK0];rfl
end Go.Proofs.YtimknncpjakckaaGreatDoor
namespace Go.Nv
open Go.VL Go.Ar Go.Lo Go.Nm Go.Sg
abbrev zo:Str:=⟨#[99,108,105,99,107,115]⟩
abbrev vG:Str:=⟨#[114,97,116,101,115]⟩
abbrev qws:Str:=⟨#[117,115,101,114]⟩
abbrev QS:Str:=⟨#[115,104,111,112]⟩
abbrev nN:Str:=⟨#[110]⟩
abbrev nF:Str:=⟨#[102]⟩
abbrev uW:Str:=⟨#[108,97,115,116,95,115,104,111,112]⟩
abbrev Kn:Str:=⟨#[114,97,116,101]⟩
abbrev nX:Str:=⟨#[120]⟩
abbrev nU:Str:=⟨#[117]⟩
abbrev nA:Str:=⟨#[97]⟩
abbrev nB:Str:=⟨#[98]⟩
abbrev nS:Str:=⟨#[115]⟩
abbrev Ww (s:Str):E:=.mk { vb 2 with name:=s } []
abbrev Xy (v:Val):E:=.mk { vb 1 with val:=v } []
abbrev um (op tab:Str) (p wk ws:Int):Hd:={ vb 5 with op:=op,table:=tab,param:=p,wk:=wk,ws:=ws }
abbrev jy (op tab fld:Str) (p wk ws:Int):E:=.mk (um op tab p wk ws) [Ww fld,Xy ⟨1,1,qH⟩]
abbrev qBn:Tab:=⟨zo,qws,[⟨nN,⟨2,[],qH⟩⟩,⟨QS,⟨5,[],QS⟩⟩],0⟩
abbrev qH1:Tab:=⟨vG,QS,[⟨nF,⟨3,[],qH⟩⟩],0⟩
abbrev qye:Ftr:=⟨uW,qws,⟨5,[],QS⟩,jy jD zo QS 0 1 0,1⟩
abbrev qyd:Ftr:=⟨Kn,QS,⟨3,[],qH⟩,jy jD vG nF 0 1 0,1⟩
abbrev xBody:E:=.mk (vb 9) [.mk { vb 4 with name:=Kn } [.mk { vb 3 with name:=uW } []],Xy ⟨3,1500000,qH⟩]
abbrev fX:Ftr:=⟨nX,qws,⟨3,[],qH⟩,xBody,1⟩
abbrev xj:Cat:=⟨[qBn,qH1],[qye,qyd,fX],[],[]⟩
abbrev xG:List Rw:=[⟨⟨nS,1⟩,zo,nU,10,[⟨2,4,qH⟩,⟨5,0,nA⟩],0,0⟩,⟨⟨nS,3⟩,vG,nB,12,[⟨3,2250000,qH⟩],0,0⟩,⟨⟨nS,2⟩,zo,nU,14,[⟨2,7,qH⟩,⟨5,0,nB⟩],0,0⟩]
example:XC xj xG 14 3 nX nU=⟨3,2250000,qH⟩:=by rfl
example:XC xj xG 13 3 nX nU=⟨3,1500000,qH⟩:=by rfl
example:jt xj xG 13 (XC xj xG 13 3) (jy JE zo nN 0 1 0) nU=⟨2,4,qH⟩:=by rfl
example:jt xj xG 14 (XC xj xG 14 3) (jy JE zo nN 0 1 0) nU=⟨2,11,qH⟩:=by rfl
example:jt xj xG 14 (XC xj xG 14 3) (jy QZ zo nN 0 2 4) nU=⟨3,7000000,qH⟩:=by rfl
example:jt xj xG 13 (XC xj xG 13 3) (jy QZ zo nN 0 2 4) nU=⟨3,4000000,qH⟩:=by rfl
example:jt xj xG 14 (XC xj xG 14 3) (jy XN zo nN 4 1 0) nU=⟨3,9000000,qH⟩:=by rfl
example:jt xj xG 14 (XC xj xG 14 3) (jy QG zo nN 500 1 0) nU=⟨2,4,qH⟩:=by rfl
end Go.Nv
namespace Go.Proofs.YtimknncpjakckaaGreatDoor
open Go.VL Go.Ar Go.Lo Go.RowKit Go.ChangeShapes Go.WideShapes Go.Sg Go.Proofs.YtimknncpjakckaaGreatDoor
theorem qot {w:World} {I:Cells} {b:Nat}:∀ {l a:List V} {o:Nat},yf l a->V.ats w I l b o->V.ats w I a b o
 | _,_,_,.nil,_=>by omega
 | _,_,o,.cons h r,ha=>by
  simp only [V.ats] at ha ⊢;obtain⟨⟨x,d,e,j,k⟩,n⟩:=ha;exact⟨⟨x,d,e,j,h w I x k⟩,qot r n⟩
theorem qdy:∀ {l a:List V},yf l a->l.length=a.length
 | _,_,.nil=>rfl
 | _,_,.cons _ r=>by simp [qdy r]
inductive VO:List (List V)->List (List V)->Prop
 | nil:VO [] []
 | cons {e e':List V} {l l':List (List V)} (h:yf e e') (r:VO l l'):VO (e::l) (e'::l')
theorem VO.len:∀ {l a:List (List V)},VO l a->l.length=a.length
 | _,_,.nil=>rfl
 | _,_,.cons _ r=>by simp [r.len]
theorem VO.lies {w:World} {I:Cells} {b k:Nat}:∀ {l a:List (List V)} {o:Nat},VO l a->V.lies w I k l b o->V.lies w I k a b o
 | _,_,_,.nil,_=>by omega
 | _,_,o,.cons h r,ha=>by
  simp only [V.lies] at ha ⊢;exact⟨qot h ha.1,qdy h▸ha.2.1,r.lies ha.2.2⟩
theorem Le.lists {own:Option Value} {k:Nat} {es d:List (List V)} (h:VO es d):Le (.list own k es) (.list none k d):=by
 intro w I x j;simp only [V.rep] at j ⊢;obtain⟨_,a,c,n,p,q⟩:=j;refine⟨fun y z=>(by cases z),a,c,h.len▸n,h.len▸p,?_⟩;rcases q with e | ⟨b,o,e,u⟩
 ·subst e;cases h;simp
 ·exact .inr ⟨b,o,e,h.lies u⟩
theorem wP:∀ {l a m d:List V},yf l a->yf m d->yf (l++m) (a++d)
 | _,_,_,_,.nil,h=>h
 | _,_,_,_,.cons h r,h'=>.cons h (wP r h')
theorem yc (l m:List V):V.bulks (l++m)=V.bulks l+V.bulks m:=by
 induction l with
 | nil=>simp [V.bulks]
 | cons x l a=>simp only [List.cons_append,V.bulks,a];omega
theorem qa9:∀ vs:List V,vs.length<=V.bulks vs
 | []=>KM _
 | v::r=>by
  have:=qa9 r;have d:1<=V.bulk v:=by
   cases v with
   | lit x=>cases x <;> simp [V.bulk]
   | list a k es=>simp [V.bulk]
   | _=>simp [V.bulk]
  simp only [V.bulks,List.length_cons];omega
theorem Zp {α:Type} {t e:TypeId} {k d m:Nat} (hu:prog.underlying t=some (.slice e)) (D:prog.cellsOf e=k) (c:α->List V) (G:α->Prop) (n:α->Nat) (f:Nat)
  (K:∀ vs,V.bulks vs<=m->TV prog d e vs->∃ x,yf vs (c x)/\G x/\n x<=f * V.bulks vs) (pos:∀ x,0 < (c x).length) {v:V} (h:TV prog (d+1) t [v]) (w:V.bulk v<=m) :
  ∃ l:List α,Le v (.list none k (l.map c))/\l.length+1<=V.bulk v/\(l.map n).sum+f<=f * V.bulk v/\∀ x ∈ l,G x:=by
 simp only [TV,hu] at h;rcases h with h | ⟨es,h,F,u⟩
 ·cases h;exact⟨[],Le.nil k,by simp [V.bulk],by simp [V.bulk],fun x j=>by cases j⟩
 ·rw [D] at h;cases h;clear F;have q:V.bulk (.list none k es)=V.bulkss es+1:=by simp [V.bulk]
  rw [q] at w ⊢;have:∃ l:List α,VO es (l.map c)/\l.length<=V.bulkss es/\(l.map n).sum<=f * V.bulkss es/\∀ x ∈ l,G x:=by
   clear q
   induction es with
   | nil=>exact⟨[],.nil,KM _,KM _,fun x j=>by cases j⟩
   | cons y es J =>
    simp only [V.bulkss] at w;obtain⟨x,p,L,M⟩:=K y (by omega) (u y x6);obtain⟨l,a,A,C,o⟩:=J (fun z I=>u z (z8 _ I)) (by omega);have H:=qa9 y;rw [qdy p] at H;have:=pos x;refine⟨x::l,.cons p a,?_,?_,?_⟩
    ·simp only [List.length_cons,V.bulkss];omega
    ·simp only [z7,List.sum_cons,V.bulkss,qQ3];omega
    simp_all
  obtain⟨l,a,A,C,o⟩:=this;exact⟨l,Le.lists a,by omega,by rw [qQ3];omega,o⟩
theorem xE {d:Nat} {v:List V} (h:TV prog d 3 v):∃ n,v=[vint n]/\inW n:=by
 cases d with
 | zero=>exact h.elim
 | succ d =>
  simp only [TV,Ty.un3] at h;obtain⟨n,rfl,a⟩:=h;refine⟨n,rfl,?_⟩;simp only [Lit.wf,k7,decide_eq_true_eq] at a;have e:IntKind.i64.min=-9223372036854775808:=by decide
  have j:IntKind.i64.max=9223372036854775807:=by decide
  unfold inW;omega
theorem kg {d:Nat} {v:List V} (h:TV prog d 9 v):∃ s:Str,v=[vstr s]/\s.size<=maxLen:=by
 cases d with
 | zero=>exact h.elim
 | succ d =>
  assumption
theorem qC4 {d:Nat} {vs:List V} (h:TV prog d 288 vs):∃ x:Fac,vs=cFac x:=by
 cases d with
 | zero=>exact h.elim
 | succ d =>
  simp only [TV,underlying288,TVF] at h;obtain⟨j,o,rfl,a,k,p,rfl,e,rfl⟩:=h;obtain⟨s,rfl,_⟩:=kg a;obtain⟨n,rfl,_⟩:=xE e;exact⟨⟨s,n⟩,rfl⟩
theorem qn1 {d:Nat} {vs:List V} (h:TV prog d 64 vs):∃ i:FID,vs=Qc i:=by
 cases d with
 | zero=>exact h.elim
 | succ d =>
  simp only [TV,underlying64,TVF] at h;obtain⟨j,o,rfl,a,k,p,rfl,e,rfl⟩:=h;obtain⟨s,rfl,_⟩:=kg a;obtain⟨n,rfl,_⟩:=xE e;exact⟨⟨s,n⟩,rfl⟩
theorem qnz {d:Nat} {vs:List V} (h:TV prog d 32 vs):∃ v:Val,vs=qS v/\inW v.n:=by
 cases d with
 | zero=>exact h.elim
 | succ d =>
  simp only [TV,underlying32,TVF] at h;obtain⟨u,y,rfl,a,w,z,rfl,e,x,A,rfl,j,rfl⟩:=h;obtain⟨k,rfl,p⟩:=xE a;obtain⟨n,rfl,o⟩:=xE e;obtain⟨s,rfl,q⟩:=kg j;exact⟨⟨k,n,s⟩,rfl,o⟩
theorem qCz {d:Nat} {vs:List V} (h:TV prog d 35 vs):∃ a b:Int,vs=[vint a,vint b]:=by
 cases d with
 | zero=>exact h.elim
 | succ d =>
  simp only [TV,underlying35,TVF] at h;obtain⟨o,q,rfl,e,p,u,rfl,j,rfl⟩:=h;obtain⟨k,rfl,_⟩:=xE e;obtain⟨n,rfl,_⟩:=xE j;simp
theorem uV {d:Nat} {t e:TypeId} {vs:List V} (hu:prog.underlying t=some (.slice e)) (h:TV prog d t vs):∃ v a,vs=[v]/\d=a+1:=by
 cases d with
 | zero=>exact h.elim
 | succ d =>
  simp only [TV,hu] at h;rcases h with h | ⟨es,h,_⟩
  ·simp_all
  simp_all
mutual
theorem Vi:∀ x:E,zV x<=kY x
 | .mk h l=>by
  have:=depths_size l;rw [vp,uO];omega
theorem depths_size:∀ l:List E,depthEs l<=sizeEs l
 | []=>KM _
 | x::r=>by
  have a:=Vi x;have d:=depths_size r;simp only [depthEs,sizeEs];omega
end
theorem qer:∀ l:List E,(l.map fun x=>2 * kY x).sum=2 * sizeEs l
 | []=>rfl
 | x::r=>by
  have:=qer r;simp only [z7,List.sum_cons,sizeEs,this];omega
theorem qf0 {d:Nat} {vs:List V} (hb:V.bulks vs<=1048576) (h:TV prog d 33 vs):∃ us:List Fac,yf vs [qN us]/\us.length<=1048576:=by
 obtain⟨u,e,rfl,rfl⟩:=uV Ty.un33 h;simp only [V.bulks] at hb;obtain⟨us,a,j,_,_⟩:=Zp (m:=1048576) Ty.un33 (by rfl:prog.cellsOf 288=2) cFac (fun _=>True) (fun _=>0) 0 (fun vs _ h=>by obtain⟨x,rfl⟩:=qC4 h;exact⟨x,yf.refl _,trivial,KM _⟩) (fun _=>qP7 _) h (by omega);exact⟨us,.cons a .nil,by omega⟩
theorem qxn:∀ (d:Nat) (vs:List V),V.bulks vs<=1048576->TV prog d 38 vs->∃ x:E,yf vs (cE x)/\uh x/\2 * kY x<=1 * V.bulks vs:=by
 intro d
 induction d using Nat.strongRecOn with
 | ind d I =>
 intro vs G h;cases d with
 | zero=>exact h.elim
 | succ d =>
  simp only [TV,underlying38,TVF] at h;obtain⟨P,Z,rfl,w,Q,y2,rfl,y,R,y3,rfl,z,S,y4,rfl,A,T,y5,rfl,C,U,y6,rfl,j,W,y7,rfl,D,X,aa,rfl,F,Y,y9,rfl,k,rfl⟩:=h;obtain⟨kind,rfl,_⟩:=xE w;obtain⟨op,rfl,_⟩:=kg y;obtain⟨name,rfl,_⟩:=kg z;obtain⟨table,rfl,_⟩:=kg A;obtain⟨val,rfl,_⟩:=qnz C;obtain⟨u,q,rfl,rfl⟩:=uV Ty.un33 j;obtain⟨param,rfl,_⟩:=xE D;obtain⟨M,N,rfl⟩:=qCz F;obtain⟨a,_,rfl,_⟩:=uV Ty.un36 k;simp only [List.cons_append,List.nil_append,V.bulks,qS] at G;obtain⟨L,e,K⟩:=qf0 (by simp only [V.bulks];omega) j;cases e with
  | cons e _ =>
  obtain⟨J,n,O,o,p⟩:=Zp (m:=1048576) Ty.un36 (by rfl:prog.cellsOf 38=12) cE uh (fun x=>2 * kY x) 1 (fun vs H h=>I q (by omega) vs H h) (fun x=>by rw [qJz];decide) k (by omega);refine⟨.mk ⟨kind,op,name,table,val,L,param,M,N⟩ J,?_,?_,?_⟩
  ·rw [wI];exact .cons (Le.refl _) (.cons (Le.refl _) (.cons (Le.refl _) (.cons (Le.refl _) (.cons (Le.refl _) (.cons (Le.refl _) (.cons (Le.refl _) (.cons e (.cons (Le.refl _) (.cons (Le.refl _) (.cons (Le.refl _) (.cons n .nil)))))))))))
  ·exact .mk _ _ (km K (by decide)) (by unfold Go.Proofs.YtimknncpjakckaaGreatDoor.big;omega) p
  ·rw [uO];rw [qer] at o;simp only [List.cons_append,List.nil_append,V.bulks,qS,V.bulk];omega
theorem qn0 {d:Nat} {vs:List V} (hb:V.bulks vs<=1048576) (h:TV prog d 57 vs):∃ t:Typ,yf vs [vint t.kind,qN t.unit,vstr t.of]/\t.unit.length<=1048576:=by
 cases d with
 | zero=>exact h.elim
 | succ d =>
  simp only [TV,underlying57,TVF] at h;obtain⟨q,x,rfl,a,u,y,rfl,e,w,z,rfl,j,rfl⟩:=h;obtain⟨kind,rfl,_⟩:=xE a;obtain⟨o,rfl,_⟩:=kg j;rw [yc,yc] at hb;obtain⟨p,k,n⟩:=qf0 (by omega) e;exact⟨⟨kind,p,o⟩,.cons (Le.refl _) (wP k (yf.refl _)),n⟩
theorem qC2 {d:Nat} {vs:List V} (hb:V.bulks vs<=1048576) (h:TV prog d 109 vs):∃ f:Fld,yf vs (KK f)/\xK f.typ:=by
 cases d with
 | zero=>exact h.elim
 | succ d =>
  simp only [TV,underlying109,TVF] at h;obtain⟨j,n,rfl,a,k,o,rfl,e,rfl⟩:=h;obtain⟨name,rfl,_⟩:=kg a;rw [yc,yc] at hb;obtain⟨t,t1,t2⟩:=qn0 (by omega) e;rw [wl];exact⟨⟨name,t⟩,.cons (Le.refl _) t1,km t2 (by decide)⟩
theorem qC0 {d:Nat} {vs:List V} (hb:V.bulks vs<=1048576) (h:TV prog d 42 vs):∃ t:Tab,yf vs (cTab t)/\vf t:=by
 cases d with
 | zero=>exact h.elim
 | succ d =>
  simp only [TV,underlying42,TVF] at h;obtain⟨A,G,rfl,j,C,H,rfl,k,D,I,rfl,e,F,J,rfl,n,rfl⟩:=h;obtain⟨name,rfl,_⟩:=kg j;obtain⟨entity,rfl,_⟩:=kg k;obtain⟨a,y,rfl,rfl⟩:=uV Ty.un40 e;obtain⟨keep,rfl,_⟩:=xE n;simp only [List.cons_append,List.nil_append,V.bulks] at hb;obtain⟨l,p,z,_,q⟩:=Zp (m:=1048576) Ty.un40 (by rfl:prog.cellsOf 109=4) KK (fun f=>xK f.typ) (fun _=>0) 0 (fun vs o h=>by obtain⟨x,u,w⟩:=qC2 o h;exact⟨x,u,w,KM _⟩) (fun _=>qP7 _) e (by omega);exact⟨⟨name,entity,l,keep⟩,.cons (Le.refl _) (.cons (Le.refl _) (.cons p (.cons (Le.refl _) .nil))),by simp only [vf];exact⟨by unfold Go.Proofs.YtimknncpjakckaaGreatDoor.big;omega,q⟩⟩
theorem qC1 {d:Nat} {vs:List V} (hb:V.bulks vs<=1048576) (h:TV prog d 59 vs):∃ f:Ftr,yf vs (cFtr f)/\GF f:=by
 cases d with
 | zero=>exact h.elim
 | succ d =>
  simp only [TV,underlying59,TVF] at h;obtain⟨y,D,rfl,k,z,F,rfl,n,A,G,rfl,o,u,H,rfl,p,C,I,rfl,q,rfl⟩:=h;obtain⟨name,rfl,_⟩:=kg k;obtain⟨entity,rfl,_⟩:=kg n;obtain⟨version,rfl,_⟩:=xE q;simp only [yc] at hb;obtain⟨t,t1,t2⟩:=qn0 (by omega) o;obtain⟨x,a,j,w⟩:=qxn _ u (by omega) p;have e:kY x<=1000000:=by omega
  refine⟨⟨name,entity,t,x,version⟩,?_,⟨km t2 (by decide),j⟩,km (Vi x) (km e (by decide)),e⟩;rw [qs];rw [qY] at a;exact .cons (Le.refl _) (.cons (Le.refl _) (wP t1 (wP a (yf.refl _))))
theorem qC7 {d:Nat} {vs:List V} (hb:V.bulks vs<=1048576) (h:TV prog d 61 vs):∃ c:Chg,yf vs (yn c)/\qia c/\GF c.feature:=by
 cases d with
 | zero=>exact h.elim
 | succ d =>
  simp only [TV,underlying61,TVF] at h;obtain⟨n,u,rfl,a,o,w,rfl,e,p,x,rfl,j,q,y,rfl,k,rfl⟩:=h;obtain⟨kind,rfl,_⟩:=xE a;obtain⟨name,rfl,_⟩:=kg k;simp only [yc] at hb;obtain⟨t,t1,t2⟩:=qC0 (by omega) e;obtain⟨f,f1,f2⟩:=qC1 (by omega) j;refine⟨⟨kind,t,f,name⟩,?_,⟨t2,f2.1⟩,f2⟩;rw [qs] at f1;rw [wJ,wl];exact .cons (Le.refl _) (wP t1 (wP f1 (yf.refl _)))
theorem qC3 {d:Nat} {vs:List V} (hb:V.bulks vs<=1048576) (h:TV prog d 88 vs):∃ f:Fct,yf vs (KN f)/\f.fields.length<=1048576/\∀ v ∈ f.fields,inW v.n:=by
 cases d with
 | zero=>exact h.elim
 | succ d =>
  simp only [TV,underlying88,TVF] at h;obtain⟨D,L,rfl,j,F,M,rfl,k,G,N,rfl,n,H,O,rfl,o,I,P,rfl,p,J,Q,rfl,q,K,R,rfl,e,rfl⟩:=h;obtain⟨i,rfl⟩:=qn1 j;obtain⟨kind,rfl,_⟩:=xE k;obtain⟨ref,rfl,_⟩:=xE n;obtain⟨table,rfl,_⟩:=kg o;obtain⟨key,rfl,_⟩:=kg p;obtain⟨event,rfl,_⟩:=xE q;obtain⟨a,z,rfl,rfl⟩:=uV Ty.un65 e;simp only [List.cons_append,List.nil_append,V.bulks] at hb;obtain⟨l,u,C,_,w⟩:=Zp (m:=1048576) Ty.un65 (by rfl:prog.cellsOf 32=3) qS (fun v=>inW v.n) (fun _=>0) 0 (fun vs A h=>by obtain⟨x,rfl,y⟩:=qnz h;exact⟨x,yf.refl _,y,KM _⟩) (fun _=>qP7 _) e (by omega);exact⟨⟨i.src,i.seq,kind,ref,table,key,event,l⟩,.cons (Le.refl _) (.cons (Le.refl _) (.cons (Le.refl _) (.cons (Le.refl _) (.cons (Le.refl _) (.cons (Le.refl _) (.cons (Le.refl _) (.cons u .nil))))))),by simp only;omega,w⟩
theorem qC6 {d:Nat} {vs:List V} (hb:V.bulks vs<=1048576) (h:TV prog d 90 vs):∃ e:Ers,vs=Up e/\e.key.size<=1048576:=by
 cases d with
 | zero=>exact h.elim
 | succ d =>
  simp only [TV,underlying90,TVF] at h;obtain⟨o,w,rfl,a,p,x,rfl,j,q,y,rfl,k,u,z,rfl,n,rfl⟩:=h;obtain⟨kind,rfl,_⟩:=xE a;obtain⟨entity,rfl,_⟩:=kg j;obtain⟨key,rfl,_⟩:=kg k;obtain⟨i,rfl⟩:=qn1 n;simp only [List.cons_append,List.nil_append,V.bulks,V.bulk] at hb;exact⟨⟨kind,entity,key,i.src,i.seq⟩,rfl,by simp only;omega⟩
theorem qC5 {d:Nat} {vs:List V} (hb:V.bulks vs<=1048576) (h:TV prog d 92 vs):∃ e:yg,yf vs (XJ e)/\VR e/\∀ v ∈ e.fact.fields,inW v.n:=by
 cases d with
 | zero=>exact h.elim
 | succ d =>
  simp only [TV,underlying92,TVF] at h;obtain⟨C,H,rfl,o,D,I,rfl,p,F,J,rfl,q,z,K,rfl,u,G,L,rfl,w,A,M,rfl,y,rfl⟩:=h;obtain⟨no,rfl,_⟩:=xE o;obtain⟨tick,rfl,_⟩:=xE p;obtain⟨kind,rfl,_⟩:=xE q;simp only [yc] at hb;obtain⟨f,f1,f2,f3⟩:=qC3 (by omega) u;obtain⟨x,rfl,n⟩:=qC6 (by omega) w;obtain⟨c,a,j,k⟩:=qC7 (by omega) y;refine⟨⟨no,tick,kind,f,x,c⟩,?_,⟨j,k,km n (by decide),km f2 (by decide)⟩,f3⟩;show yf (vint no::vint tick::vint kind::(z++(Up x++(A++[])))) (vint no::vint tick::vint kind::(KN f++(Up x++yn c)));rw [wl];exact .cons (Le.refl _) (.cons (Le.refl _) (.cons (Le.refl _) (wP f1 (wP (yf.refl _) a))))
theorem qzg (e:yg):0 < (XJ e).length:=by rw [ym];simp
theorem qDf {d:Nat} {a:V} (h:TA prog d 22 a) (hb:V.bulkA a<=1048576):∃ l:List yg,Le a (xN l)/\l.length<=1048576/\(∀ e ∈ l,VR e)/\∀ e ∈ l,∀ v ∈ e.fact.fields,inW v.n:=by
 unfold TA at h;simp only [Ty.ag22] at h;cases d with
 | zero=>exact h.elim
 | succ d =>
  have n:V.bulk a<=1048576:=by
   simp only [TV,Ty.un22] at h;rcases h with h | ⟨es,h,_⟩ <;> (cases h;exact hb)
  obtain⟨l,p,y,_,k⟩:=Zp (m:=1048576) Ty.un22 (by rfl:prog.cellsOf 92=40) XJ (fun e=>VR e/\∀ v ∈ e.fact.fields,inW v.n) (fun _=>0) 0 (fun z o h=>by obtain⟨x,q,u,w⟩:=qC5 o h;exact⟨x,q,⟨u,w⟩,KM _⟩) (fun x=>qzg x) h n;exact⟨l,p,by omega,fun e j=>(k e j).1,fun e j=>(k e j).2⟩
theorem Vv:∀ {d:List V} {a:V},a ∈ d->V.bulkA a<=V.bulkAs d
 | b::r,a,h=>by
  rcases xb.1 h with rfl | h
  ·simp only [V.bulkAs];omega
  ·have:=Vv h;simp only [V.bulkAs];omega
mutual
theorem uA {H:Type}:∀ d:DataW H,Rows.uptoBulk d=wK d
 | .lit (.string b)=>by rfl
 | .lit (.int _ _)=>by rfl
 | .lit (.bool _)=>by rfl
 | .lit (.float _ _)=>by rfl
 | .lit .nil=>by rfl
 | .nil=>by rfl
 | .ptr d=>by simp only [Rows.uptoBulk,wK,uA d]
 | .slice es sp=>by simp only [Rows.uptoBulk,wK,bulks_eq es,bulks_eq sp]
 | .agg ps=>by simp only [Rows.uptoBulk,wK,bulks_eq ps]
 | .iface _ d=>by simp only [Rows.uptoBulk,wK,uA d]
 | .map es=>by simp only [Rows.uptoBulk,wK,bulke_eq es]
 | .held _=>by rfl
theorem bulks_eq {H:Type}:∀ ds:List (DataW H),Rows.uptoBulkAll ds=bulkDs ds
 | []=>by rfl
 | d::r=>by simp only [Rows.uptoBulkAll,bulkDs,uA d,bulks_eq r]
theorem bulke_eq {H:Type}:∀ es:List (Lit × DataW H),Rows.uptoBulkEntries es=bulkDe es
 | []=>by rfl
 | x::r=>by simp only [Rows.uptoBulkEntries,bulkDe,bulkx_eq x,bulke_eq r]
theorem bulkx_eq {H:Type}:∀ x:Lit × DataW H,Rows.uptoBulkEntry x=bulkDx x
 | (.string b,d)=>by simp only [Rows.uptoBulkEntry,bulkDx,uA d]
 | (.int _ _,d)=>by simp only [Rows.uptoBulkEntry,bulkDx,uA d]
 | (.bool _,d)=>by simp only [Rows.uptoBulkEntry,bulkDx,uA d]
 | (.float _ _,d)=>by simp only [Rows.uptoBulkEntry,bulkDx,uA d]
 | (.nil,d)=>by simp only [Rows.uptoBulkEntry,bulkDx,uA d]
end
theorem qk0 {d:Nat} {a:V} (h:TA prog d 3 a):∃ n,a=vint n:=by
 unfold TA at h;simp only [Ty.ag3] at h;obtain⟨n,e,_⟩:=xE h;simp_all
theorem qJb {d:Nat} {a:V} (h:TA prog d 9 a):∃ s,a=vstr s:=by
 unfold TA at h;simp only [Ty.ag9] at h;obtain⟨n,e,_⟩:=kg h;simp_all
theorem UO {P:Program} {w:World} {I:Cells} {enc:TypeId × Value->Unit} {base:Nat} {spare:Nat->Bool} {held:Bool} {n:Nat} {e:TypeId} {b o:Nat} (u:∀ b o x,w.cell? ⟨b,o,none⟩=some x->I b o) (C:P.underlying e=some .string) :
  ∀ (a:List ByteArray) (j:Nat) (d:List (DataW Unit × List MemPlace)),d.map (·.1)=a.map (fun s=>.lit (.string s.data.toList)) ->
   (∀ i,i < a.length->(w.cells? base ((⟨b,o,none⟩:Addr).add ((j+i) * 1)) 1).bind (DataW.trod enc P w base spare held n e)=d[i]?)->V.lies w I 1 (a.map fun s=>[V.lit (.string s)]) b (o+j)
 | [],j,d,_,_=>by simp only [Jx,V.lies]
 | s::a,j,[],h,_=>by simp at h
 | s::a,j,y::d,h,hd=>by
  simp only [z7,qKi] at h;have q:=hd 0 (by simp);simp only [Nat.add_zero,qPh,List.getElem?_cons_zero,qOi] at q;obtain⟨L,G,J⟩:=q;obtain⟨p,rfl,K,_⟩:=DataW.trod_string C J;have H:p=s:=by
   have k:=h.1;rw [K] at k;simp only [DataW.lit.injEq,Lit.string.injEq] at k;obtain⟨⟨l⟩⟩:=s;obtain⟨⟨O⟩⟩:=p;simp only at k;rw [k]
  subst H;obtain⟨_,_,F⟩:=World.cells?_some G;have z:=F 0 (by simp);simp only [List.getElem?_cons_zero] at z;have A:w.cell? ⟨b,o+j,none⟩=some (.string p):=by
   rw [<-z];by_cases D:j=0
   ·subst D;rfl
   ·simp [Addr.add,D]
  simp only [z7,V.lies,V.ats];refine⟨⟨⟨_,A,u _ _ _ A,by simp [Go.VL.one],by rfl⟩,trivial⟩,rfl,?_⟩;have N:=UO (enc:=enc) (base:=base) (spare:=spare) (held:=held) (n:=n) u C a (j+1) d h.2 fun i M=>by
   have:=hd (i+1) (by simp_all);rw [show j+(i+1)=j+1+i by omega] at this;assumption
  omega
theorem qu4 {P:Program} {w:World} {I:Cells} {enc:TypeId × Value->Unit} {base:Nat} {spare:Nat->Bool} {held:Bool} {G:Nat} {t e:TypeId} {cs:List Value} {p:List MemPlace} (H:∀ b o x,w.cell? ⟨b,o,none⟩=some x->I b o)
  (hu:P.underlying t=some (.slice e)) (M:P.underlying e=some .string) (hc:P.cellsOf e=1) (s:ByteArray) (k:List ByteArray)
  (h:DataW.trod enc P w base spare held G t cs=some (.slice ((s::k).map fun s=>.lit (.string s.data.toList)) [],p)):∃ x,cs=[x]/\Go.VL.one x/\V.rep w I (.list none 1 ((s::k).map fun s=>[V.lit (.string s)])) x:=by
 rcases DataW.trod_slice hu h with⟨_,j⟩ | ⟨a,len,cap,d,rest,n,rfl,rfl,j,R,T,X,W,D,_,_⟩
 ·cases j
 ·simp only [qQl,DataW.slice.injEq] at j;obtain⟨⟨F,Z⟩,_⟩:=j;have Y:d.length=k.length+1:=by
   have:=congrArg List.length F;simpa using this.symm
  obtain⟨b,o,spot⟩:=a;have O:spot=none:=by
   have C:=D 0 (by omega);rw [hc,show d[0]? = some (d[0]'(by omega)) from by simp,qOi] at C;obtain⟨z,L,_⟩:=C;obtain⟨_,U,K⟩:=World.cells?_some L;have A:=K 0 (by omega);obtain⟨u,J⟩:∃ u,z[0]? = some u:=⟨z[0]'(by omega),by simp⟩;rw [J] at A;have:=World.cell?_spot A;cases spot with
   | none=>rfl
   | some q=>assumption
  subst O;have N:=UO (b:=b) (o:=o) H M (s::k) 0 d F.symm fun i S=>by
   have:=D i (by simp_all);rw [hc] at this;rw [qJ0];omega
  refine⟨_,rfl,by simp [Go.VL.one],?_⟩;simp only [V.rep];refine⟨fun y Q=>(by cases Q),some ⟨b,o,none⟩,cap,?_,?_,.inr ⟨b,o,rfl,N⟩⟩
  ·simp_all
  simp_all
abbrev qxa : List (String × DataW Unit) := [("asof/checker.aggregates", Rows.laid_asof_checker_aggregates), ("asof/checker.unary", Rows.laid_asof_checker_unary), ("asof/checker.binary", Rows.laid_asof_checker_binary)]
theorem qDm {W:World} (h:laidMetH prog qxa W) (S:W.ShapedOpen prog):UC W fun b _=>b < W.heap.size:=by
 have n:∀ b o x,W.cell? ⟨b,o,none⟩=some x->(fun b _=>b < W.heap.size:Cells) b o:=fun b o x u=>by
  unfold World.cell? at u;show b < W.heap.size;by_cases h:b < W.heap.size
  ·exact h
  simp_all
 have one:∀ {e:String} {g t:Nat} {k w:Nat} {a:Array Value} {y:Nat} {p:List MemPlace} (s:ByteArray) (j:List ByteArray),prog.globalNamed e=some g->(prog.globals[g]?).map (·.type)=some t->prog.underlying t=some (.slice 9) ->
   prog.globalNamed e=some k->(prog.globals[k]?).map (·.type)=some w->W.var? prog e=some a->DataW.trod (fun _=>()) prog W 0 (fun _=>true) false y w a.toList=some (.slice ((s::j).map fun s=>.lit (.string s.data.toList)) [],p) ->
   V.ats W (fun b _=>b < W.heap.size) [.list none 1 ((s::j).map fun s=>[V.lit (.string s)])] g 0:=by
  intro e g t k w a y p s j d T hu O U X hd;obtain rfl:=KL (d.symm.trans O);obtain rfl:=KL (T.symm.trans U);obtain⟨x,u,N,R⟩:=qu4 (I:=fun b _=>b < W.heap.size) n hu Ty.un9 (by rfl) s j hd;have q:=World.var?_cell d X 0;have Y:a[0]? = some x:=by
   have:=congrArg (·[0]?) u;simpa using this
  rw [Y] at q;simp only [V.ats];exact⟨⟨x,q,n _ _ _ q,N,R⟩,trivial⟩
 obtain⟨ps,⟨g0,t0,Z,f0,p0,q0,C,G,K,d0,⟨g1,t1,aa,f1,p1,q1,D,H,L,d1,⟨g2,t2,ab,f2,p2,q2,F,J,M,d2,_⟩,_⟩,_⟩,_⟩:=h;refine⟨fun p Q=>?_,fun g d=>?_⟩
 ·have A:p ∈ globsV:=Q;simp only [globsV,xb,y8,or_false] at A;rcases A with rfl | rfl | rfl
  ·exact one (t := 156) ⟨#[99, 111, 117, 110, 116]⟩ [⟨#[115, 117, 109]⟩, ⟨#[109, 101, 97, 110]⟩, ⟨#[109, 105, 110]⟩, ⟨#[109, 97, 120]⟩, ⟨#[102, 105, 114, 115, 116]⟩, ⟨#[108, 97, 115, 116]⟩, ⟨#[100, 105, 115, 116, 105, 110, 99, 116]⟩, ⟨#[113, 117, 97, 110, 116, 105, 108, 101]⟩, ⟨#[100, 101, 99, 97, 121]⟩] (by rfl : prog.globalNamed "asof/checker.aggregates" = some 0) (by rfl) (by rfl) C G K d0
  ·exact one (t := 156) ⟨#[45]⟩ [⟨#[110, 111, 116]⟩, ⟨#[110, 117, 108, 108]⟩] (by rfl : prog.globalNamed "asof/checker.unary" = some 1) (by rfl) (by rfl) D H L d1
  ·exact one (t := 156) ⟨#[43]⟩ [⟨#[45]⟩, ⟨#[42]⟩, ⟨#[47]⟩, ⟨#[61, 61]⟩, ⟨#[33, 61]⟩, ⟨#[60]⟩, ⟨#[60, 61]⟩, ⟨#[97, 110, 100]⟩, ⟨#[111, 114]⟩] (by rfl : prog.globalNamed "asof/checker.binary" = some 2) (by rfl) (by rfl) F J M d2
 ·obtain rfl:=kl.1 d;obtain⟨m,z⟩:=cell_of_shapedOpen_int (P:=prog) (g:=3) (t:=3) (zero:=#[.int .i64 0]) S (of_decide_eq_true (by rfl)) (by kernel_rfl) rfl (by rfl) (by rfl) Ty.un3;exact⟨m,z,n _ _ _ z⟩
end Go.Proofs.YtimknncpjakckaaGreatDoor
namespace Go.Proofs.YtimknncpjakckaaGreatDoor
open Go.VL Go.Ar Go.Lo Go.Nv Go.Sg Go.Nm Go.Proofs.YtimknncpjakckaaGreatDoor
theorem uK (n:Int):zk prog 9 [vint n] (.agg (qS ⟨2,n,qH⟩)):=by
 refine oE func9 fun F h a=>?_;refine qb fun d e=>?_;exact qe
theorem QA (n:Int):zk prog 25 [vint n] (.agg (qS ⟨3,n,qH⟩)):=by
 refine oE func25 fun F h a=>?_;refine qb fun d e=>?_;exact qe
theorem qnx (s:Str):zk prog 37 [vstr s] (.agg (qS ⟨5,0,s⟩)):=by
 refine oE func37 fun F h a=>?_;refine qb fun d e=>?_;exact qe
theorem qk8 (n:Int):zk prog 36 [vint n] (.agg [vstr nS,vint n]):=by
 refine oE func36 fun F h a=>?_;refine qb fun d e=>?_;exact qe
theorem qnw {h:Hd} {a b:V} (hu:h.unit=[]) (d:Le a b):Le (.agg [vint h.kind,vstr h.op,vstr h.name,vstr h.table,vint h.val.kind,vint h.val.n,vstr h.val.s,nilS,vint h.param,vint h.wk,vint h.ws,a]) (.agg (Go.Lo.cH h b)):=by
 refine wc (.cons (Le.refl _) (.cons (Le.refl _) (.cons (Le.refl _) (.cons (Le.refl _) (.cons (Le.refl _) (.cons (Le.refl _) (.cons (Le.refl _) (.cons ?_ (.cons (Le.refl _) (.cons (Le.refl _) (.cons (Le.refl _) (.cons d .nil))))))))))));rw [hu];exact Le.nil 2
theorem qr8 (s:Str):zk prog 38 [vstr s] (.agg (Go.Lo.cH { vb 2 with name:=s } (kI []))):=by
 refine oE func38 fun F j a=>?_;refine qb fun d e=>?_;refine qa ?_;exact Yq (qnw (h:={ vb 2 with name:=s }) rfl (Le.nil 12))
theorem qck (v:Val):zk prog 7 [.agg (qS v)] (.agg (Go.Lo.cH { vb 1 with val:=v } (kI []))):=by
 refine oE func7 fun F n a=>?_;refine qb fun d j=>?_;refine qb fun e k=>?_;refine qa ?_;exact Yq (qnw (h:={ vb 1 with val:=v }) rfl (Le.nil 12))
theorem uU (op tab fld:Str) (p wk ws:Int):zk prog 22 [vstr op,vstr tab,vstr fld,vint p,.agg [vint wk,vint ws]] (.agg (Go.Lo.cH (um op tab p wk ws) (kI [Ww fld,Xy ⟨1,1,qH⟩]))):=by
 have a:=qr8 fld;have d:=qck ⟨1,1,qH⟩;refine oE func22 fun F u j=>?_;refine qb fun n q=>?_;refine qb fun k o=>?_;refine qa ?_;refine qt _ a.v ?_;refine qa ?_;refine qt _ d.v ?_;refine qa ?_;have e:kI [Ww fld,Xy ⟨1,1,qH⟩]=.list none 12 [Go.Lo.cH { vb 2 with name:=fld } (kI []),Go.Lo.cH { vb 1 with val:=⟨1,1,qH⟩ } (kI [])]:=rfl;rw [e];exact Yq (qnw (h:=um op tab p wk ws) rfl (Le.list _ _ _))
theorem qoq {C:Ctx} {k:List It} {S:St} {Q:Exit->St->Prop} {hc:Option Bool} {ops:Array Oper} {d:Option Nat} {ty:TypeId} {pos:String} {af:Array Edge} {gd:Option (Nat × Bool)} {l:List Oper} (t:TypeId) (n:Nat) (ps:List (Nat × Operand)) :
  xJ C (.g hc) ops ⟨d,.buildSlice t n ps.toArray,ty,pos,af,gd⟩ l k S Q=buildSliceD C.P t n (ps.map fun p=>(p.1,ev S.σ p.2)) fun v=>EX C (.ops (.g hc) ops l::k) (S.put d v) Q:=rfl
theorem qji:zk prog 21 [] (.tup [zO xj,qZ xG]):=by
 have q:=uU jD zo QS 0 1 0;have u:=uU jD vG nF 0 1 0;have d1:=QA 1500000;have z:=qck ⟨3,1500000,qH⟩;have w:=qk8 1;have x:=qk8 3;have y:=qk8 2;have D:=uK 4;have G:=uK 7;have A:=qnx nA;have C:=qnx nB;have d2:=QA 2250000;have Q:zg prog 36=true:=by kernel_rfl
 refine Ok.of_exM [(7,1)] Ty.mixed func21 rfl (by simp) (by rfl) fun F R H=>?_;refine qb fun I p=>?_;refine qa ?_;refine fun J d=>?_;replace d:=zS d;try simp only [Nb] at d
 have a:=And.intro p d;refine qa ?_;refine fun S=>?_;refine fun K e=>?_;replace e:=zS e;try simp only [Nb] at e
 have a:=And.intro a e;refine qa ?_;refine fun T=>?_;refine fun L h=>?_;replace h:=zS h;try simp only [Nb] at h
 have a:=And.intro a h;refine qi _ q ?_;refine qa ?_;refine fun M j=>?_;replace j:=zS j;try simp only [Nb] at j
 have a:=And.intro a j;refine qi _ u ?_;refine qa ?_;refine fun N k=>?_;replace k:=zS k;try simp only [Nb] at k
 have a:=And.intro a k;refine qa ?_;refine fun U=>?_;refine fun O n=>?_;replace n:=zS n;try simp only [Nb] at n
 have a:=And.intro a n;refine qa ?_;refine qt _ d1.v ?_;refine qa ?_;refine qt _ z.v ?_;simp only [↓rA,rU,qoq,simprocAttr];refine fun P o=>?_;replace o:=zS o;try simp only [Nb] at o
 have a:=And.intro a o;refine qi _ w ?_;refine qi _ D ?_;refine qi _ A ?_;refine qa ?_;refine fun W=>?_;refine qo _ x ?_;refine qi _ d2 ?_;refine qa ?_;refine fun X=>?_;refine qo _ y ?_;refine qi _ G ?_;refine qi _ C ?_;simp only [↓rA,rU,a,simprocAttr];refine fun Y Z=>?_;refine fun aa y9=>?_;refine⟨_,[],[],jf (.cons (wc (.cons (Le.lists ?_) (.cons (Le.lists ?_) (.cons (Le.nil 18) (.cons (Le.nil 18) .nil))))) (.cons (Le.lists ?_) .nil)),zn _,zn _,rfl,rfl,rfl⟩
 all_goals repeat' first | exact yf.nil | exact VO.nil | exact Le.refl _ | exact Le.nil _ | refine VO.cons ?_ ?_ | refine yf.cons ?_ ?_ | refine Le.lists ?_
theorem ZR (h:Hd) (hu:h.unit=[]):uh (.mk h []):=.mk h [] (by simp_all) (KM _) (fun x a=>by cases a)
theorem qn8 (s:Str):uh (Ww s):=ZR _ rfl
theorem qcy (v:Val):uh (Xy v):=ZR _ rfl
theorem qwz (s:Str):jk (Ww s):=by rw [jk,LitWs];exact⟨yZ,trivial⟩
theorem qkd {v:Val} (h:inW v.n):jk (Xy v):=by rw [jk,LitWs];simp_all
theorem qCy:inW (1:Int):=by unfold inW;decide
theorem Y2 (op tab fld:Str) (p wk ws:Int):uh (jy op tab fld p wk ws):=.mk _ _ (KM _) (by unfold Go.Proofs.YtimknncpjakckaaGreatDoor.big;simp) (fun x a=>by
 rcases xb.1 a with rfl | a
 ·exact qn8 _
 ·rw [kl.1 a];exact qcy _)
theorem Kr (op tab fld:Str) (p wk ws:Int):jk (jy op tab fld p wk ws):=by
 rw [jk,LitWs,LitWs,LitWs];exact⟨yZ,qwz _,qkd qCy,trivial⟩
theorem qB1 (fld:Str):qF3 xj xG [Ww fld,Xy ⟨1,1,qH⟩] where
 tabs:=by decide
 flds tb h:=by
  unfold Go.Proofs.YtimknncpjakckaaGreatDoor.big;rcases xb.1 h with rfl | h
  ·decide
  simp_all
 few:=by decide
 row r h:=by
  have q:∀ n:Int,(n=4∨n=0∨n=2250000∨n=7)->inW n:=fun n h=>by unfold inW;omega
  unfold qdv Go.Proofs.YtimknncpjakckaaGreatDoor.big;simp only [xG,xb,y8,or_false] at h;rcases h with rfl | rfl | rfl
  ·simp_all
  ·simp_all
  simp_all
 args x a:=by
  rcases xb.1 a with rfl | a
  ·exact⟨qn8 _,qwz _⟩
  ·rw [kl.1 a];exact⟨qcy _,qkd qCy⟩
theorem KG (op tab fld:Str) {p wk ws:Int} (d:¬ wk=4) (a:0<=p/\p<=1073741824):Jj xj xG (jy op tab fld p wk ws) :=
 .mk _ _ (fun _=>⟨d,qB1 fld,by show inW p;unfold inW;omega,fun _=>a⟩) (fun h=>absurd rfl h)
theorem qe1 (op tab fld:Str) (p wk ws:Int):Ub (jy op tab fld p wk ws)=[]:=by rfl
theorem qcg {op tab fld m:Str} {p wk ws:Int} (h:m ∈ Ub (jy op tab fld p wk ws)):False:=by rw [qe1] at h;cases h
abbrev NS (n:Str):Prop:=n=uW∨n=Kn
abbrev fvS (t:Int):Str->Str->Val:=XC xj xG t 1
abbrev fiS (t:Int):Str->Str->FID->Prop:=feaI xj xG t 1
theorem JI {n:Str} {f:Ftr} (h:NS n) (a:xl xj.features n=some f):(f=qye∨f=qyd):=by
 rcases h with rfl | rfl
 ·rw [show xl xj.features uW=some qye by rfl] at a;simp_all
 ·rw [show xl xj.features Kn=some qyd by rfl] at a;simp_all
theorem qvm {t:Int} (h:0<=t/\t<=1099511627776):VW xj xG t NS (fun _=>0) (fvS t) (fiS t) where
 sol:={
  ref:=fun n e f a=>by
   rcases JI e a with rfl | rfl
   ·exact⟨fun m d=>(qcg (op:=jD) (tab:=zo) (fld:=QS) (p:=0) (wk:=1) (ws:=0) d).elim,KG _ _ _ (by decide) (by decide),Y2 _ _ _ _ _ _,Kr _ _ _ _ _ _⟩
   ·exact⟨fun m d=>(qcg (op:=jD) (tab:=vG) (fld:=nF) (p:=0) (wk:=1) (ws:=0) d).elim,KG _ _ _ (by decide) (by decide),Y2 _ _ _ _ _ _,Kr _ _ _ _ _ _⟩
  val:=fun n e key=>by
   show XC xj xG t 1 n key=_;unfold XC;unfold xl;cases a:xj.features.find? fun f=>decide (f.name=n) with
   | none=>rfl
   | some f =>
    simp only [];rcases JI e a with rfl | rfl
    ·rfl
    rfl
  ids:=fun n e key i=>by
   show feaI xj xG t 1 n key i↔_;unfold feaI;unfold xl;cases a:xj.features.find? fun f=>decide (f.name=n) with
   | none=>rfl
   | some f =>
    simp only [];rcases JI e a with rfl | rfl
    ·rfl
    rfl
  inw:=fun n e key=>by
   show inW (XC xj xG t 1 n key).n;unfold XC;cases a:xj.features.find? fun f=>decide (f.name=n) with
   | none=>exact yZ
   | some f =>
    simp only [];rcases JI e a with rfl | rfl
    ·exact qlp _ (fun m d=>(qcg (op:=jD) (tab:=zo) (fld:=QS) (p:=0) (wk:=1) (ws:=0) d).elim) (Kr _ _ _ _ _ _) (KG _ _ _ (by decide) (by decide)) _
    ·exact qlp _ (fun m d=>(qcg (op:=jD) (tab:=vG) (fld:=nF) (p:=0) (wk:=1) (ws:=0) d).elim) (Kr _ _ _ _ _ _) (KG _ _ _ (by decide) (by decide)) _ }
 feats:=by decide
 tabs:=by decide
 tick:=h
theorem Wx (op tab fld:Str) {p wk ws:Int} (e:¬ wk=4) (d:0<=p/\p<=1073741824):VS xj xG NS (fun _=>0) 1 (jy op tab fld p wk ws) :=
 ⟨Y2 _ _ _ _ _ _,Kr _ _ _ _ _ _,KG _ _ _ e d,fun m a=>by rw [qe1] at a;cases a⟩
theorem qK8:Ub xBody=[Kn,uW]:=rfl
theorem qLw:uh xBody:=.mk _ _ (KM _) (by decide) (fun x a=>by
 rcases xb.1 a with rfl | a
 ·exact .mk _ _ (KM _) (by decide) (fun y d=>by rw [kl.1 d];exact ZR _ rfl)
 ·rw [kl.1 a];exact qcy _)
theorem qNf:jk xBody:=by
 rw [jk,LitWs,LitWs,LitWs,jk,LitWs,LitWs,jk,LitWs];exact⟨yZ,⟨yZ,⟨yZ,trivial⟩,trivial⟩,qkd (by unfold inW;decide),trivial⟩
theorem qNm:Jj xj xG xBody:=.mk _ _ (fun h=>absurd h (by decide)) (fun _ x a=>by
 rcases xb.1 a with rfl | a
 ·exact .mk _ _ (fun h=>absurd h (by decide)) (fun _ y e=>by rw [kl.1 e];exact .mk _ _ (fun h=>absurd h (by decide)) (fun _ z d=>by cases d))
 ·rw [kl.1 a];exact .mk _ _ (fun h=>absurd h (by decide)) (fun _ z d=>by cases d))
theorem exX:VS xj xG NS (fun _=>0) 1 xBody:=⟨qLw,qNf,qNm,fun m a=>by
 rw [qK8] at a;rcases xb.1 a with rfl | a
 ·decide
 ·rw [kl.1 a];decide⟩
theorem v14:jt xj xG 14 (fvS 14) xBody nU=⟨3,2250000,qH⟩:=by rfl
theorem v13:jt xj xG 13 (fvS 13) xBody nU=⟨3,1500000,qH⟩:=by rfl
theorem qM0:jt xj xG 13 (fvS 13) (jy JE zo nN 0 1 0) nU=⟨2,4,qH⟩:=by rfl
theorem qMz:jt xj xG 14 (fvS 14) (jy JE zo nN 0 1 0) nU=⟨2,11,qH⟩:=by rfl
theorem qM2:jt xj xG 14 (fvS 14) (jy QZ zo nN 0 2 4) nU=⟨3,7000000,qH⟩:=by rfl
theorem qM3:jt xj xG 13 (fvS 13) (jy QZ zo nN 0 2 4) nU=⟨3,4000000,qH⟩:=by rfl
theorem qM4:jt xj xG 14 (fvS 14) (jy XN zo nN 4 1 0) nU=⟨3,9000000,qH⟩:=by rfl
theorem qM1:jt xj xG 14 (fvS 14) (jy QG zo nN 500 1 0) nU=⟨2,4,qH⟩:=by rfl
theorem KS {c:Cat} {rows:List Rw} {t:Int} {h:Hd} {l:List E} {key:Str} {i:FID}:VF c rows t h l key i↔i ∈ (if (ud c h.table).isSome=true then (zW c rows h l key t).map (·.id) else []):=by
 unfold VF;cases ud c h.table with
 | none=>simp
 | some a=>simp
theorem qG0 (t:Int) (i:FID):fiS t uW nU i↔VF xj xG t (um jD zo 0 1 0) [Ww QS,Xy ⟨1,1,qH⟩] nU i:=by
 rfl
theorem qGz (t:Int) (k:Str) (i:FID):fiS t Kn k i↔VF xj xG t (um jD vG 0 1 0) [Ww nF,Xy ⟨1,1,qH⟩] k i:=by
 rfl
theorem qG3 {t:Int} (n:0<=t/\t<=1099511627776) {s:Str} (e:fvS t uW nU=⟨5,0,s⟩) (i:FID):W8 xj xG t (fvS t) (fiS t) xBody nU i↔(fiS t uW nU i∨fiS t Kn s i):=by
 have d:∀ j,W8 xj xG t (fvS t) (fiS t) (Xy ⟨3,1500000,qH⟩) nU j↔False:=fun j=>by
  rfl
 have h:∀ j,W8 xj xG t (fvS t) (fiS t) (.mk { vb 3 with name:=uW } []) nU j↔fiS t uW nU j:=fun j=>by
  rfl
 have k:jt xj xG t (fvS t) (.mk { vb 3 with name:=uW } []) nU=⟨5,0,s⟩:=by
  rw [qc1,qc2 rfl];exact e
 have a:∀ j,W8 xj xG t (fvS t) (fiS t) (.mk { vb 4 with name:=Kn } [.mk { vb 3 with name:=uW } []]) nU j↔(fiS t uW nU j∨fiS t Kn s j):=fun j=>by
  rw [qk7,Ku rfl];simp_all
 rw [qk7,qn2 (by decide) (by decide) (by decide) (by decide)];simp only [z7,Jx,List.length_cons,List.length_nil,qPl,qQi,a,d];simp [xV]
theorem qNe {i a b c:FID}:i ∈ [a,b,c]↔(i ∈ [a,b]∨i ∈ [c]):=by simp [or_assoc]
abbrev l14:List FID:=[⟨nS,1⟩,⟨nS,2⟩,⟨nS,3⟩]
abbrev l13:List FID:=[⟨nS,1⟩]
theorem m14 (i:FID):i ∈ l14↔W8 xj xG 14 (fvS 14) (fiS 14) xBody nU i:=by
 rw [qG3 (s:=nB) (by decide) (by rfl),qG0,qGz,KS,KS];rw [show (if (ud xj (um jD zo 0 1 0).table).isSome=true then (zW xj xG (um jD zo 0 1 0) [Ww QS,Xy ⟨1,1,qH⟩] nU 14).map (·.id) else [])=[⟨nS,1⟩,⟨nS,2⟩] by rfl,show (if (ud xj (um jD vG 0 1 0).table).isSome=true then (zW xj xG (um jD vG 0 1 0) [Ww nF,Xy ⟨1,1,qH⟩] nB 14).map (·.id) else [])=[⟨nS,3⟩] by rfl];exact qNe
theorem m13 (i:FID):i ∈ l13↔W8 xj xG 13 (fvS 13) (fiS 13) xBody nU i:=by
 rw [qG3 (s:=nA) (by decide) (by rfl),qG0,qGz,KS,KS];rw [show (if (ud xj (um jD zo 0 1 0).table).isSome=true then (zW xj xG (um jD zo 0 1 0) [Ww QS,Xy ⟨1,1,qH⟩] nU 13).map (·.id) else [])=[⟨nS,1⟩] by rfl,show (if (ud xj (um jD vG 0 1 0).table).isSome=true then (zW xj xG (um jD vG 0 1 0) [Ww nF,Xy ⟨1,1,qH⟩] nA 13).map (·.id) else [])=[] by rfl];simp
theorem o14:qou l14:=by decide
theorem o13:qou l13:=by simp
abbrev cOv (op:Str) (p wk ws:Int):List V:=Go.Lo.cH (um op zo p wk ws) (kI [Ww nN,Xy ⟨1,1,qH⟩])
theorem qgs (c:Cat) (R:List Rw) (C:2 < c.features.length) (G:zk prog 21 [] (.tup [zO c,qZ R]))
  (f14:zk prog 23 [zO c,qZ R,vstr nX,vstr nU,vint 14] (.tup [.agg (qS ⟨3,2250000,qH⟩),vint 0])) (f13:zk prog 23 [zO c,qZ R,vstr nX,vstr nU,vint 13] (.tup [.agg (qS ⟨3,1500000,qH⟩),vint 0]))
  (q:zk prog 24 [zO c,qZ R,vE c.features[2].body,vstr nU,vint 14] (qd9 l14)) (p:zk prog 24 [zO c,qZ R,vE c.features[2].body,vstr nU,vint 13] (qd9 l13))
  (M:zk prog 8 [zO c,qZ R,.agg (cOv JE 0 1 0),vstr nU,vint 13] (.agg (qS ⟨2,4,qH⟩))) (N:zk prog 8 [zO c,qZ R,.agg (cOv JE 0 1 0),vstr nU,vint 14] (.agg (qS ⟨2,11,qH⟩)))
  (m14:zk prog 8 [zO c,qZ R,.agg (cOv QZ 0 2 4),vstr nU,vint 14] (.agg (qS ⟨3,7000000,qH⟩))) (m13:zk prog 8 [zO c,qZ R,.agg (cOv QZ 0 2 4),vstr nU,vint 13] (.agg (qS ⟨3,4000000,qH⟩)))
  (d14:zk prog 8 [zO c,qZ R,.agg (cOv XN 4 1 0),vstr nU,vint 14] (.agg (qS ⟨3,9000000,qH⟩))) (L:zk prog 8 [zO c,qZ R,.agg (cOv QG 500 1 0),vstr nU,vint 14] (.agg (qS ⟨2,4,qH⟩))) :
  zk prog 11 [] (qq true):=by
 have H:=uU JE zo nN 0 1 0;have I:=uU QZ zo nN 0 2 4;have J:=uU XN zo nN 4 1 0;have K:=uU QG zo nN 500 1 0;have A:(2:Int) < (c.features.length:Int):=by omega
 have W:((3:Nat):Int)=3:=rfl;have U:((1:Nat):Int)=1:=rfl;rw [vE,qY] at q p;refine oE func11 fun F w0 P=>?_;refine qi _ G ?_;refine qa ?_;refine fun o d=>?_;replace d:=zS d;try simp only [Nb] at d
 refine qa ?_;refine fun u e=>?_;replace e:=zS e;try simp only [Nb] at e
 have a:=And.intro d e;refine qi _ H ?_;refine qa ?_;refine fun w h=>?_;replace h:=zS h;try simp only [Nb] at h
 have a:=And.intro a h;refine qi _ I ?_;refine qa ?_;refine fun x j=>?_;replace j:=zS j;try simp only [Nb] at j
 have a:=And.intro a j;refine qi _ f14 ?_;refine qa ?_;refine fun y k=>?_;replace k:=zS k;try simp only [Nb] at k
 have a:=And.intro a k;refine qi _ f13 ?_;refine qa ?_;refine fun z n=>?_;replace n:=zS n;try simp only [Nb] at n
 have a:=And.intro a n;simp only [↓rA,rB,simprocAttr,a,A,zz,qI _ _ _ C,qs,tU];refine qt _ q.v ?_;simp only [↓rA,rB,simprocAttr,a,A,zz,qI _ _ _ C,qs,tU];refine qt _ p.v ?_;simp only [↓qJ,↓qbn,↓zA,zw,qu,kM,wB,wz,wO,jd,wT,QJ,kO,WQ,eq_self,z7,Jx,qL1,qNk,wl,List.toList_toArray,results11];refine qox (fun S=>S.boxes=[(z,.c (qS ⟨3,1500000,qH⟩)),(y,.c (qS ⟨3,2250000,qH⟩)),(x,.c (cOv QZ 0 2 4)),(w,.c (cOv JE 0 1 0)),(u,.c [vint 1,vint 0]),(o,.c (qT c))]/\S.rows=[]/\S.σ 1=ptr o/\S.σ 2=qZ R/\S.σ 3=ptr u/\S.σ 4=ptr w/\S.σ 5=ptr x/\S.σ 6=ptr y/\S.σ 7=vint 0/\S.σ 8=ptr z/\S.σ 9=vint 0/\S.σ 10=qd9 l14/\S.σ 11=qd9 l13) ?_ fun S ⟨Q,T,X,s2,s3,s4,s5,s6,s7,s8,s9,Y,Z⟩=>?_
 ·exact qA
 have d1:=QA 2250000;have d2:=QA 1500000;have d3:=QA 7000000;have d4:=QA 4000000;have d5:=QA 9000000;have D:=uK 4;have O:=uK 11;refine qa ?_;refine qt _ d1.v ?_;refine qa ?_;refine qt _ d2.v ?_;refine qi _ M ?_;refine qi _ D ?_;refine qi _ N ?_;refine qi _ O ?_;refine qi _ m14 ?_;refine qi _ d3 ?_;refine qi _ m13 ?_;refine qi _ d4 ?_;refine qa ?_;refine qt _ J.v ?_;refine qa ?_;refine qt _ d14.v ?_;refine qa ?_;refine qt _ d5.v ?_;refine qa ?_;refine qt _ K.v ?_;refine qa ?_;refine qt _ L.v ?_;refine qa ?_;refine qt _ D.v ?_;exact qe
theorem qgt:zk prog 11 [] (qq true):=by
 have a:=qvm (t:=14) (by decide);have d:=qvm (t:=13) (by decide);have k:xl xj.features nX=some fX:=by kernel_rfl
 have f14:=qgp a k exX nU;have f13:=qgp d k exX nU;have o:jt xj xG 14 (fvS 14) fX.body nU=⟨3,2250000,qH⟩:=v14;have n:jt xj xG 13 (fvS 13) fX.body nU=⟨3,1500000,qH⟩:=v13;rw [o] at f14;rw [n] at f13;have h:=yC d (Wx JE zo nN (p:=0) (wk:=1) (ws:=0) (by decide) (by decide)) nU;have j:=yC a (Wx JE zo nN (p:=0) (wk:=1) (ws:=0) (by decide) (by decide)) nU;have m14:=yC a (Wx QZ zo nN (p:=0) (wk:=2) (ws:=4) (by decide) (by decide)) nU;have m13:=yC d (Wx QZ zo nN (p:=0) (wk:=2) (ws:=4) (by decide) (by decide)) nU;have d14:=yC a (Wx XN zo nN (p:=4) (wk:=1) (ws:=0) (by decide) (by decide)) nU;have e:=yC a (Wx QG zo nN (p:=500) (wk:=1) (ws:=0) (by decide) (by decide)) nU;rw [qM0] at h;rw [qMz] at j;rw [qM2] at m14;rw [qM3] at m13;rw [qM4] at d14;rw [qM1] at e;rw [vE,wI] at h j m14 m13 d14 e;exact qgs xj xG (by decide) qji f14 f13 (qbd a exX nU l14 o14 Go.Proofs.YtimknncpjakckaaGreatDoor.m14 (by decide)) (qbd d exX nU l13 o13 Go.Proofs.YtimknncpjakckaaGreatDoor.m13 (by decide)) h j m14 m13 d14 e
end Go.Proofs.YtimknncpjakckaaGreatDoor
namespace Go.Proofs.YtimknncpjakckaaGreatDoor
open Go.VL Go.Ar Go.Lo Go.Nv Go.Sg Go.Proofs.YtimknncpjakckaaGreatDoor
theorem qzv (l:List yg) (t:Int):∀ i b,Q6 l t i=some b->b.last ∈ l/\Qv t b.last=true/\xF b.last.fact=i:=by
 unfold Q6
 suffices h:∀ (m:List yg) (f:FID->Option Bas),(∀ x ∈ m,x ∈ l)->(∀ i b,f i=some b->b.last ∈ l/\Qv t b.last=true/\xF b.last.fact=i)->∀ i b,m.foldl (jp t) f i=some b->b.last ∈ l/\Qv t b.last=true/\xF b.last.fact=i from
  h l _ (fun _ h=>h) fun i b h=>by cases h
 intro m
 induction m with
 | nil=>simp
 | cons x m o =>
  intro f d a;refine o _ (fun y n=>d y (z8 _ n)) fun i b h=>?_;unfold jp at h;split at h
  ·rename_i k;unfold Z0 at h;split at h
   ·rename_i e;subst e;cases h;cases j:f (xF x.fact) with
    | none=>exact⟨d x x6,k,rfl⟩
    | some b =>
     obtain⟨p,q,u⟩:=a _ _ j;simp only [xy];split
     ·simp_all
     simp_all
   ·exact a i b h
  ·exact a i b h
theorem qyo {l:List yg} {t:Int} {r:Rw} (h:r ∈ Zv l t):∃ x ∈ l,Qv t x=true/\r.fields=x.fact.fields/\r.key=x.fact.key/\r.table=x.fact.table:=by
 obtain⟨b,k,a⟩:=((qxm l t).mem r).1 h;obtain⟨d,j,_⟩:=qzv l t _ _ k;unfold jH at a;split at a
 ·have e:=KL a;exact⟨b.last,d,j,(congrArg Rw.fields e).symm,(congrArg Rw.key e).symm,(congrArg Rw.table e).symm⟩
 simp_all
theorem qmj (l:List yg) (t:Int):∃ g cl,kd id (Q6 l t) g cl/\g.length<=l.length:=by
 unfold Q6
 suffices h:∀ (l:List yg) (f:FID->Option Bas) (n:Nat),(∃ g cl,kd id f g cl/\g.length<=n)->∃ g cl,kd id (l.foldl (jp t) f) g cl/\g.length<=n+l.length by
  have:=h l _ 0 ⟨[],0,kd.nil,w3 _⟩;simp_all
 intro l
 induction l with
 | nil=>simp
 | cons x l o =>
  intro f n ⟨g,cl,h,u⟩;have k:∃ g cl,kd id (jp t f x) g cl/\g.length<=n+1:=by
   unfold jp;split
   ·cases a:zy g (xF x.fact) with
    | none=>exact⟨_,_,h.new a (xy (f (xF x.fact)) x),by simp_all⟩
    | some p=>exact⟨_,_,h.old a (xy (f (xF x.fact)) x),by rw [Kp];omega⟩
   ·exact⟨g,cl,h,by omega⟩
  obtain⟨e,d,j,q⟩:=o _ (n+1) k;exact⟨e,d,j,by simp only [List.length_cons];omega⟩
theorem qyp (l:List yg) (t:Int):(Zv l t).length<=l.length:=by
 obtain⟨g,u,n,o⟩:=qmj l t;have q:((g.filterMap fun p=>jH (jg l) p.2).mergeSort fun a b=>decide (cmpRow a b<=0)).Pairwise fun x y=>¬ cmpRow y x < 0:=by
  have:=qRm (le:=fun a b:Rw=>decide (cmpRow a b<=0)) (fun a b c j k=>by
   simp only [decide_eq_true_eq] at *;exact kT.trans a b c j k) (fun a b=>by
   have:=kT.anti a b;by_cases h:cmpRow a b<=0
   ·simp [h]
   ·have:cmpRow b a<=0:=by omega
    simp_all) (g.filterMap fun p=>jH (jg l) p.2)
  refine this.imp fun {a b} h=>?_;have w:cmpRow a b<=0:=by simpa using h
  have:=kT.anti a b;omega
 have d:=qQh (g.filterMap fun p=>jH (jg l) p.2) fun a b=>decide (cmpRow a b<=0);have e:=(qxm l t).unique (Kt n d q);rw [e,d.length_eq];exact km (qRl _ _) o
theorem qlk {f:Fct} (h:xz f=true):1<=f.seq:=by
 unfold xz at h;simp_all
theorem qvr {l:List yg} (d:∀ e ∈ l,VR e) (j:∀ e ∈ l,∀ v ∈ e.fact.fields,inW v.n) {t:Int} {r:Rw} (h:r ∈ Zv l t):qdv r:=by
 obtain⟨x,a,_,e,_⟩:=qyo h;unfold qdv;rw [e];exact⟨(d x a).fld,j x a⟩
end Go.Proofs.YtimknncpjakckaaGreatDoor
namespace Go.Nv
open Go.VL Go.Ar Go.Lo Go.Nm Go.Sg
abbrev vYes:Val:=⟨1,1,qH⟩
abbrev Vp (tab:Str) (wk ws:Int):Hd:={ vb 5 with op:=qdp,table:=tab,wk:=wk,ws:=ws }
abbrev qs5 (tab:Str) (wk ws:Int):E:=.mk (Vp tab wk ws) [tt,tt]
def inB (tab key:Str) (a z:Int) (r:Rw):Bool:=decide (r.table=tab) && (decide (r.key=key) && (decide (a<=r.event) && decide (r.event<=z)))
theorem qB3 (tb:Tab) (r:Rw):jT tb r tt=vYes:=by
 rfl
theorem qrk {c:Cat} {rows:List Rw} {tab:Str} {wk ws:Int} {key:Str} {t:Int} {tb:Tab} (h:ud c tab=some tb) (d:jb t=true) :
  Wo c rows (Vp tab wk ws) [tt,tt] key t=rows.filter fun r=>decide (r.table=tab) && (decide (r.key=key) && decide (r.event<=t)):=by
 have a:ud c (Vp tab wk ws).table=some tb:=h;unfold Wo;rw [a];simp only [];rw [if_pos ⟨trivial,d⟩];congr 1;funext r;unfold QY;rw [qB3];simp only [uH,vYes,decide_true,qOa];simp
theorem qll (p q:Rw->Bool) (rows:List Rw) (h:∀ r ∈ rows,p r=q r):(rows.filter p).length=(rows.filter q).length:=by rw [qN6 h]
theorem JZ {c:Cat} {rows:List Rw} {tab:Str} {wk ws:Int} {key:Str} {t a z:Int} {tb:Tab} (h:ud c tab=some tb) (j:jb t=true) (k:wk ≠ 4) (hb:xL wk ws t=some (a,z)) (n:z=t) :
  (zW c rows (Vp tab wk ws) [tt,tt] key t).length=(rows.filter (inB tab key a t)).length:=by
 unfold zW qni;have d:(Vp tab wk ws).wk=wk:=rfl;have e:(Vp tab wk ws).ws=ws:=rfl;rw [d,e,if_neg k,hb,qrk h j,n];simp only [];rw [qO2];refine qll _ _ _ fun r _=>?_;unfold inB;rw [qOg];simp only [k7,qMv,qR2,decide_eq_true_eq,decide_eq_false_iff_not];constructor
 ·simp_all
 simp_all
theorem qoo {c:Cat} {rows:List Rw} {tab:Str} {wk ws:Int} {key:Str} {t:Int} {tb:Tab} (h:ud c tab=some tb):VE c rows t (Vp tab wk ws) [tt,tt] key=⟨2,(zW c rows (Vp tab wk ws) [tt,tt] key t).length,qH⟩:=by
 have a:ud c (Vp tab wk ws).table=some tb:=h;unfold VE;rw [a];simp only [];unfold qh1;simp
theorem qyi {c:Cat} {rows:List Rw} {tab:Str} {wk ws:Int} {key:Str} {t:Int} (a:Str->Str->Val):jt c rows t a (qs5 tab wk ws) key=VE c rows t (Vp tab wk ws) [tt,tt] key:=by
 rfl
def WD (rows:List Rw) (tab key:Str) (a z:Int):Nat:=(rows.filter (inB tab key a z)).length
theorem qa4 (tab key:Str) {a m z:Int} (k:a<=m+1) (n:m<=z):∀ rows:List Rw,WD rows tab key a z=WD rows tab key a m+WD rows tab key (m+1) z
 | []=>rfl
 | r::l=>by
  have j:=qa4 tab key k n l;unfold WD at j ⊢;rw [J0,J0,J0];have e:(inB tab key a z r=true↔(inB tab key a m r=true∨inB tab key (m+1) z r=true))/\¬ (inB tab key a m r=true/\inB tab key (m+1) z r=true):=by
   unfold inB;simp only [k7,decide_eq_true_eq];constructor
   ·constructor
    ·rintro⟨p,q,h,d⟩;by_cases o:r.event<=m
     ·simp_all
     ·exact .inr ⟨p,q,by omega,d⟩
    ·rintro(⟨p,q,h,d⟩ | ⟨p,q,h,d⟩)
     ·exact⟨p,q,h,by omega⟩
     ·exact⟨p,q,by omega,d⟩
   ·omega
  by_cases p:inB tab key a m r=true
  ·have q:¬ inB tab key (m+1) z r=true:=fun q=>e.2 ⟨p,q⟩;rw [if_pos p,if_neg q,if_pos (e.1.2 (.inl p)),qKg,qKg,j];omega
  ·by_cases q:inB tab key (m+1) z r=true
   ·rw [if_neg p,if_pos q,if_pos (e.1.2 (.inr q)),qKg,qKg,j];omega
   simp_all
theorem qFj {s t:Int} (a:1<=s) (d:s<=1099511627776) (e:jb t=true):xL 2 s t=some (max 0 (t - s+1),t):=by
 unfold xL uJ;simp_all
theorem qol {s t:Int} (a:1<=s) (d:s<=1099511627776) (e:jb t=true):xL 3 s t=some (t - t.tmod s,t):=by
 unfold xL uJ;simp_all
theorem KF {c:Cat} {rows:List Rw} {tab:Str} {key:Str} {s t:Int} {tb:Tab} (h:ud c tab=some tb) (e:1<=s) (j:s<=1099511627776) (a:jb t=true) (d:Str->Str->Val) :
  jt c rows t d (qs5 tab 2 s) key=⟨2,WD rows tab key (max 0 (t - s+1)) t,qH⟩:=by
 rw [qyi,qoo h,JZ h a (by decide) (qFj e j a) rfl];rfl
theorem qsb {c:Cat} {rows:List Rw} {tab:Str} {key:Str} {s t:Int} {tb:Tab} (h:ud c tab=some tb) (e:1<=s) (j:s<=1099511627776) (a:jb t=true) (d:Str->Str->Val) :
  jt c rows t d (qs5 tab 3 s) key=⟨2,WD rows tab key (t - t.tmod s) t,qH⟩:=by
 rw [qyi,qoo h,JZ h a (by decide) (qol e j a) rfl];rfl
theorem qjd (rows:List Rw) (tab key:Str) {s t:Int} (a:1<=s) (d:0<=t) :
  WD rows tab key (max 0 (t - 2 * s+1)) t=WD rows tab key (max 0 (t - s+1)) t+(if s<=t then WD rows tab key (max 0 (t - s - s+1)) (t - s) else 0):=by
 by_cases h:s<=t
 ·rw [if_pos h,qa4 tab key (m:=t - s) (by omega) (by omega)];rw [show max 0 (t - s+1)=t - s+1 by omega,show t - 2 * s+1=t - s - s+1 by omega];omega
 ·rw [if_neg h,show max 0 (t - 2 * s+1)=max 0 (t - s+1) by omega];rfl
theorem qbr {s t:Int} (n:1<=s) (d:0<=t):max 0 (t - (t - (t - t.tmod s)+1)+1)=t - t.tmod s:=by
 have e:=qQ7 s d;have h:t.tmod s<=t:=by
  rw [qPr d];have j:=qR0 t s;have k:=qRh (a:=s) (b:=t / s) (by omega) (qO5 d (by omega));omega
 omega
end Go.Nv
namespace Go.Proofs.YtimknncpjakckaaGreatDoor
open Go.VL Go.Ar Go.Lo Go.Nv Go.Sg Go.Nm Go.Proofs.YtimknncpjakckaaGreatDoor
theorem qIb {l:List yg} (h:∀ i h,OkE l i h):∀ x ∈ l,x.kind=1->1<=x.fact.seq:=fun x e d=>by
 obtain⟨i,a,rfl⟩:=qOu.1 e;exact qlk ((h i a).2.2 d).1
theorem qo5 (l:List yg) (u:l.length<=1048576) (j:∀ e ∈ l,VR e):Ok prog 4 [xN l] [] fun v a rs=>(∃ b:Bool,v=qq b/\(b=true->l.length<=60/\∀ x ∈ l,x.kind=1->1<=x.fact.seq))/\a=[]/\rs=[]:=by
 have o:=ql3 l (by unfold Go.Proofs.YtimknncpjakckaaGreatDoor.big;omega) j;refine oE func4 fun F y p=>?_;refine qa ?_;by_cases h:(l.length:Int)<=60
 ·have q:=eq_true h;refine qa ?_;refine qr [] [] (zp _) o ?_;rintro v a rs ⟨⟨k,rfl,n⟩,rfl,rfl⟩;by_cases d:k=0
  ·have w:=eq_true d;refine qa ?_;exact r0 ⟨⟨true,rfl,fun _=>⟨by omega,qIb (n d).2⟩⟩,rfl,rfl⟩
  ·refine qa ?_;exact r0 ⟨⟨false,rfl,nofun⟩,rfl,rfl⟩
 ·refine qa ?_;exact r0 ⟨⟨false,rfl,nofun⟩,rfl,rfl⟩
abbrev qti:List V:=Go.Lo.cH { vb 1 with val:=⟨1,1,qH⟩ } (kI [])
abbrev cX (name:Str) (wk ws:Int):List V:=[vint 5,vstr qdp,vstr qH,vstr name,vint 0,vint 0,vstr qH,nilS,vint 0,vint wk,vint ws,.list none 12 [qti,qti]]
theorem qI3 (name:Str) (wk ws:Int):Le (.agg (cX name wk ws)) (vE (qs5 name wk ws)):=by
 rw [vE,wI];exact qnw (h:=Vp name wk ws) rfl (Le.refl _)
theorem qNs {c:Cat} {rows:List Rw} {t:Int} (a:zD 32 c) (d:0<=t/\t<=1099511627776):VW c rows t (fun _=>False) (fun _=>0) (fun _ _=>val0) (fun _ _ _=>False) where
 sol:=⟨fun _ h=>h.elim,fun _ h=>h.elim,fun _ h=>h.elim,fun _ h=>h.elim⟩
 feats:=km a.lf (by decide)
 tabs:=km a.lt (by decide)
 tick:=d
theorem ex0 {c:Cat} {rows:List Rw} (e:zD 32 c) (n:rows.length<=1000) (p:∀ r ∈ rows,qdv r) (name:Str) {wk:Int} (ws:Int) (k:¬ wk=4):VS c rows (fun _=>False) (fun _=>0) 1 (qs5 name wk ws) where
 fit:=.mk _ _ (KM _) (by decide) (fun x a=>by
  rcases xb.1 a with rfl | a
  ·exact ZR _ rfl
  ·rw [kl.1 a];exact ZR _ rfl)
 lit:=by
  have d:jk tt:=by rw [jk,LitWs];exact⟨qCy,trivial⟩
  rw [jk,LitWs,LitWs,LitWs];exact⟨yZ,d,d,trivial⟩
 ev:=.mk _ _ (fun _=>⟨k,⟨km e.lt (by decide),fun q o=>(e.ft q o).1,n,p,fun x a=>by
  have d:uh tt/\jk tt:=⟨ZR _ rfl,by rw [jk,LitWs];exact⟨qCy,trivial⟩⟩;simp_all⟩,yZ,fun h=>absurd h (by simp)⟩) (fun h=>absurd rfl h)
 ref:=fun m j=>by rw [qb7] at j;cases j
theorem qzb (rows:List Rw) (tab key:Str) (a z:Int):WD rows tab key a z<=rows.length:=qMu _ _
theorem qH0 {c:Cat} {i:Nat} (h:i < c.tables.length):∃ tb,ud c c.tables[i].name=some tb:=by
 unfold ud;cases a:c.tables.find? fun t=>decide (t.name=c.tables[i].name) with
 | some tb=>simp
 | none =>
  have:=List.find?_eq_none.1 a _ (zs h);simp_all
theorem qI6 (l:List yg) (key:Str) (t size tick:Int) (al:l.length<=1048576) (X:∀ e ∈ l,VR e) (hv:∀ e ∈ l,∀ v ∈ e.fact.fields,inW v.n) :
  zk prog 3 [xN l,vstr key,vint t,vint size,vint tick] (qq true):=by
 refine Ok.of_exM [(9,1)] Ty.mixed func3 rfl (by simp) (by rfl) fun F w0 I0=>?_;refine qa ?_;refine qr [] [] (zp _) (qo5 l al X) ?_;rintro v bs rs ⟨⟨bv,rfl,aj⟩,rfl,rfl⟩;cases bv
 ·exact qe
 obtain⟨ak,ao⟩:=aj rfl;by_cases c1:size < 1
 ·have aw:=eq_true c1;exact qe
 by_cases c2:1073741824 < size
 ·have ax:=eq_true c2;exact qe
 by_cases c3:t < 0
 ·have ay:=eq_true c3;exact qe
 by_cases c4:1099511627776 < t
 ·have az:=eq_true c4;exact qe
 refine qa ?_;refine qr [] [] (zp _) (qz2 l (by omega) X tick) ?_;rintro v bs rs ⟨⟨c,rfl,hc⟩,rfl,rfl⟩;refine qa ?_;refine fun h O=>?_;replace O:=zS O;try simp only [Nb] at O
 refine qa ?_;have ai:(Zv l tick).length<=60:=km (qyp l tick) ak;refine qF (qin l tick (by omega) X ao (by omega)) ?_;rintro v bs rs ⟨⟨Y,_,rfl⟩,rfl,rfl⟩;have ab:((Zv l tick).filter fun r=>!Un Y tick r).length<=60:=km (qMu _ _) ai;have ae:∀ r ∈ (Zv l tick).filter fun r=>!Un Y tick r,qdv r:=fun r hr=>qvr X hv (qA6.1 hr).1;generalize ((Zv l tick).filter fun r=>!Un Y tick r)=rows at ab ae;refine qi _ (qck ⟨1,1,qH⟩) ?_;refine qa ?_;refine fun j P=>?_;replace P:=zS P;try simp only [Nb] at P
 have d:=And.intro O P;refine qa ?_;have hk:=hc.1;have C:∀ (name:Str) (K L J n:Int),¬ K=4->0<=J/\J<=1099511627776->jt c rows J (fun _ _=>val0) (qs5 name K L) key=⟨2,n,qH⟩->zk prog 8 [zO c,qZ rows,.agg (cX name K L),vstr key,vint J] (.agg (qS ⟨2,n,qH⟩)):=fun name K L J n h4 ap he=>by
  have h1:=yC (qNs hk ap) (ex0 hk (by omega) ae name L h4) key;rw [he] at h1;exact Ok.le (.cons (Le.refl _) (.cons (Le.refl _) (.cons (qI3 name K L) (.cons (Le.refl _) (.cons (Le.refl _) .nil))))) h1
 have u:0<=t/\t<=1099511627776:=by omega
 have G:jb t=true:=qbt u;refine zI Ty.mixed (by kernel_rfl) c.tables.length (fun i S=>S.boxes=[(j,.c qti),(h,.c (qT c))]/\S.rows=[]/\S.σ 1=vstr key/\S.σ 2=vint t/\S.σ 3=vint size/\S.σ 11=ptr h/\S.σ 12=qZ rows/\S.σ 13=ptr j/\S.σ 14=vint i) ⟨_,_,_,_,zc _,zc _,zp _,zp _,?_⟩
  (fun i S Z ⟨q,a,H,A,p,y,I,z,o⟩=>?_) (fun S ⟨q,a,H,A,p,y,I,z,o⟩=>?_)
 ·exact qA
 ·have aq:=qj (i:=i) (N:=c.tables.length) Z (km hk.lt (by decide));obtain⟨tb,w⟩:=qH0 Z;generalize an:c.tables[i].name=name at w;simp only [↓rA,rU,q,a,p,y,z,o,d,zq,Z,an,qoq,simprocAttr];refine fun M Q=>?_;replace Q:=zS Q;try simp only [Nb] at Q
  have d:=And.intro d Q;obtain⟨k,aa⟩:∃ n:Nat,n=WD rows name key (max 0 (t - size+1)) t:=⟨_,rfl⟩;obtain⟨x,D⟩:∃ n:Nat,n=(if size<=t then WD rows name key (max 0 (t - size - size+1)) (t - size) else 0):=⟨_,rfl⟩;have af:=qjd rows name key (s:=size) (t:=t) (by omega) (by omega);rw [<-aa,<-D] at af;have b1:k<=60:=by rw [aa];exact km (qzb _ _ _ _ _) ab
  have b0:x<=60:=by
   rw [D];split
   ·exact km (qzb _ _ _ _ _) ab
   ·simp
  have x1:=C name 2 size t k (by decide) u (by rw [aa];exact KF w (by omega) (by omega) G _);refine qi _ x1 ?_;simp only [↓qJ,↓zx,↓zA,↓qh6,↓Kg,↓ZV,↓U7,zw,qu,kM,wB,wz,wO,jd,kO,zP,qac,uo,z7,Jx,qL1,qNk,wl,a,tU,Nat.reduceShiftRight,Nat.reduceMod];rw [zu];refine xe (fun S=>S.boxes=[(M,.c (cX name 2 size)),(j,.c qti),(h,.c (qT c))]/\S.rows=[]/\S.σ 1=vstr key/\S.σ 2=vint t/\S.σ 3=vint size/\S.σ 11=ptr h/\S.σ 12=qZ rows/\S.σ 13=ptr j/\S.σ 14=vint i/\S.σ 15=ptr M/\S.σ 16=vint k/\S.σ 17=vint 0) ?_ ?_
  ·exact kK
  clear q a H A p y I z o;rintro S ⟨q,a,H,A,p,y,I,z,o,ah,ac,ad⟩;rw [zu];refine xe (fun S=>S.boxes=[(M,.c (cX name 2 size)),(j,.c qti),(h,.c (qT c))]/\S.rows=[]/\S.σ 1=vstr key/\S.σ 2=vint t/\S.σ 3=vint size/\S.σ 11=ptr h/\S.σ 12=qZ rows/\S.σ 13=ptr j/\S.σ 14=vint i/\S.σ 15=ptr M/\S.σ 16=vint k/\S.σ 17=vint x) ?_ ?_
  ·by_cases c5:size<=t
   ·have aA:=eq_true c5;have wt:IntKind.i64.wrap (t - size)=t - size:=qv (by omega) (by omega);have ag:0<=t - size/\t - size<=1099511627776:=by omega
    have x0:=C name 2 size (t - size) x (by decide) ag (by rw [D,if_pos c5];exact KF w (by omega) (by omega) (qbt ag) _);refine qi _ x0 ?_;exact kK
   ·rw [if_neg c5] at D;subst D;exact kK
  clear q a H A p y I z o ah ac ad;rintro S ⟨q,a,H,A,p,y,I,z,o,ah,ac,ad⟩;have w2:IntKind.i64.wrap (2 * size)=2 * size:=qv (by omega) (by omega);have x2:=C name 2 (2 * size) t (k+x:Nat) (by decide) u (by rw [<-af];exact KF w (by omega) (by omega) G _);have wn:IntKind.i64.wrap ((k:Int)+(x:Int))=((k+x:Nat):Int):=by rw [qv (by omega) (by omega)];rfl
  obtain⟨n4,am⟩:∃ n:Nat,n=WD rows name key (t - t.tmod size) t:=⟨_,rfl⟩;have x3:=C name 3 size t n4 (by decide) u (by rw [am];exact qsb w (by omega) (by omega) G _);have aB:=qQ7 size u.1;have aC:=Int.tmod_lt_of_pos t (show 0 < size by omega);have x4:=C name 2 (t - (t - t.tmod size)+1) t n4 (by decide) u (by
   have e4:=KF (rows:=rows) (key:=key) (s:=t - (t - t.tmod size)+1) w (by omega) (by omega) G (fun _ _=>val0);rw [qbr (s:=size) (t:=t) (by omega) (by omega)] at e4;simp_all)
  have W:=Vw 3 size t;rw [qol (by omega) (by omega) G] at W;simp only [qo7] at W;have w5:IntKind.i64.wrap (t - (t - t.tmod size))=t - (t - t.tmod size):=qv (by omega) (by omega);have w6:IntKind.i64.wrap (t - (t - t.tmod size)+1)=t - (t - t.tmod size)+1:=qv (by omega) (by omega);refine qa ?_;refine fun ar R=>?_;replace R:=zS R;try simp only [Nb] at R
  have d:=And.intro d R;refine qi _ x2 ?_;simp only [↓rA,rU,a,ac,ad,simprocAttr];refine qo _ (uK _) ?_;simp only [↓rA,rU,a,A,p,wn,simprocAttr];refine qo _ W ?_;refine qa ?_;refine fun au T=>?_;replace T:=zS T;try simp only [Nb] at T
  have d:=And.intro d T;refine qa ?_;refine fun av U=>?_;replace U:=zS U;try simp only [Nb] at U
  have d:=And.intro d U;generalize t - t.tmod size=tm at x4 W w5 w6 ⊢;refine qa ?_;refine qt _ x3.v ?_;refine qa ?_;refine qt _ x4.v ?_;simp only [↓rA,rU,a,o,aq,simprocAttr];refine⟨[(j,.c qti),(h,.c (qT c))],[],_,[],?_,zn _,zp _,zp _,rfl,rfl,?_⟩
  ·refine qB ?_;exact(((zc _).cons _).cons _).cons _ |>.cons _
  ·exact qA
 ·refine qn ?_;refine qo _ qgt ?_;exact qe
end Go.Proofs.YtimknncpjakckaaGreatDoor
namespace Go.Proofs.YtimknncpjakckaaGreatDoor
open Go.ChangeShapes
theorem qEo:(Rows.naiveSlidesUptoRow.inPlace == prog.inPlace 3)=true:=by kernel_rfl
theorem qD5:(Rows.naiveSlidesUptoRow.unfollowed == prog.unfollowed 3)=true:=by kernel_rfl
theorem qD9:(Rows.naiveSlidesUptoRow.recurses == prog.recurses 3)=true:=by kernel_rfl
theorem qEf:(Rows.naiveSlidesUptoRow.named == prog.varsNamed 3)=true:=by kernel_rfl
theorem qD1:(Rows.naiveSlidesUptoRow.wf (OpenSpec.ofChange (Rows.OpenSpec.upto Rows.naiveSlidesSpec).bare))=true:=by kernel_rfl
theorem qoa:(laidOutB prog)=true:=by kernel_rfl
theorem qEg:(mapsRowed prog)=true:=by kernel_rfl
theorem qD8:(Tryz.f3.params.all (prog.readableRec ·))=true:=by kernel_rfl
theorem qEe:(namedTie prog Rows.naiveSlidesUptoRow.named (Rows.OpenSpec.upto Rows.naiveSlidesSpec).bare.vars)=true:=by kernel_rfl
theorem qEa:(prog.stops == [])=true:=by kernel_rfl
theorem qEc:(prog.stopKnobs == [])=true:=by kernel_rfl
theorem qEh:(Rows.naiveSlidesUptoRow.maps == (Tryz.f3.params.toList++(Rows.OpenSpec.upto Rows.naiveSlidesSpec).bare.plain.varTypes prog).any (prog.mapsRec ·))=true:=by kernel_rfl
theorem qEq:(Rows.naiveSlidesUptoRow.ifaces == (Tryz.f3.params.toList++(Rows.OpenSpec.upto Rows.naiveSlidesSpec).bare.plain.varTypes prog).any (prog.ifacesRec ·))=true:=by kernel_rfl
theorem qEi:(Rows.naiveSlidesUptoRow.mapsOut == prog.mapsAmong Tryz.f3.resultTypes.toList)=true:=by rfl
theorem qEn:(Rows.naiveSlidesUptoRow.loops == (Tryz.f3.params.toList++(Rows.OpenSpec.upto Rows.naiveSlidesSpec).bare.plain.varTypes prog).any (prog.loopsFrom ·))=true:=by kernel_rfl
theorem qD0:(Rows.naiveSlidesUptoRow.wideKeys == (Tryz.f3.params.toList++(Rows.OpenSpec.upto Rows.naiveSlidesSpec).bare.plain.varTypes prog++Tryz.f3.resultTypes.toList).any (prog.wideKeysFrom ·))=true:=by kernel_rfl
theorem qD2:((Rows.OpenSpec.upto Rows.naiveSlidesSpec).bare.vars.all (prog.varReadable ·))=true:=by rfl
theorem qD7:(Tryz.f3.resultTypes.all (fun t=>prog.readableRec t && decide (t < prog.types.size)))=true:=by kernel_rfl
theorem qEp:(Rows.naiveSlidesUptoRow.ifacesOut == Tryz.f3.resultTypes.toList.any (prog.ifacesRec ·))=true:=by rfl
theorem qEl:(Rows.naiveSlidesUptoRow.loopsOut == Tryz.f3.resultTypes.toList.any (prog.loopsFrom ·))=true:=by rfl
theorem qEb:(Rows.naiveSlidesUptoRow.plainKeys == prog.plainKeys)=true:=by rfl
theorem qD6:(prog.stopsHeard)=true:=by kernel_rfl
theorem qEk:(prog.mayEnter)=true:=by kernel_rfl
theorem qEm:(Rows.naiveSlidesUptoRow.lifted == prog.liftsFinal)=true:=by kernel_rfl
theorem qEj:(prog.make == some Rows.naiveSlidesUptoRow.make)=true:=by kernel_rfl
theorem qEd:(Rows.naiveSlidesUptoRow.pinned == Rows.naiveSlidesUptoRow.pinnedBy)=true:=by rfl
theorem qD4:(Rows.naiveSlidesUptoRow.veiled == (Tryz.f3.params.toList++(Rows.OpenSpec.upto Rows.naiveSlidesSpec).bare.plain.varTypes prog++Tryz.f3.resultTypes.toList).any (prog.veiledRec ·))=true:=by kernel_rfl
theorem qD3:(Rows.naiveSlidesUptoRow.veiledFits prog Tryz.f3.params.toList (Tryz.f3.params.toList++(Rows.OpenSpec.upto Rows.naiveSlidesSpec).bare.plain.varTypes prog++Tryz.f3.resultTypes.toList))=true:=by kernel_rfl
theorem qaw : prog.funcNamed "asof/asoflaw18.NaiveSlides" = some 3 := by kernel_rfl
theorem qln:prog.looks []=false:=by kernel_rfl
theorem qrw:prog.funcs.any Func.goes=false:=by kernel_rfl
theorem qct {P:Program} {c:OpenClaim} (h:P.funcs.any Func.goes=false) (e:c.start=.entering):c.goesBy P=false:=by
 unfold OpenClaim.goesBy Program.goesAt Program.goesFrom;rw [e,qP3];cases k:P.funcNamed c.func with
 | none=>rfl
 | some f =>
  show P.goes f=false;unfold Program.goes;rw [h,qPu,qP3,List.any_eq_false];intro g _;cases a:P.funcs[g]? with
  | none=>simp
  | some fn =>
   rw [Option.any_some];exact fun d=>by
    have j:P.funcs.any Func.goes=true:=Array.any_eq_true'.2 ⟨fn,qR1 a,d⟩;simp_all
theorem qsa:false=Rows.naiveSlidesUptoRow.goesBy prog:=(qct qrw rfl).symm
theorem ka {a b:Bool} (d:a=true) (hb:b=true):(a && b)=true:=by simp_all
end Go.Proofs.YtimknncpjakckaaGreatDoor
