/- Merged out of my texts VC VD VI VM VMe VO VP VDl V13 VX VY VZ VW VU V14. -/
import Derived.Test.YtkdgbjhbpbgdeaaGreatDoorKA
import Derived.Test.YtkdgbjhbpbgdeaaGreatDoorKVa
import Derived.ChangeKeysEq
import Derived.Laws.StructEq
import Derived.Laws.IdiomRangeMap
import Derived.Laws.BytesString
import Derived.Lib.ConvBytes
import Derived.Laws.AppendOwn
import Derived.Scope
import Derived.RangeFuncLeaves
import Derived.RangeFuncRecord
set_option linter.unusedSimpArgs false
set_option linter.unusedVariables false
namespace Go.VL
open Go.RowKit
theorem kS.boxes {C S w I} (h:kS C S w I) (d:Bx) (k:∀ p ∈ d,xR w I p.1 p.2) (n:(d.map (·.1)).Nodup) (o:∀ p ∈ d,p.1 ∈ S.boxes.map (·.1)):kS C (S.setBoxes d) w I:=by
 have e:=w4.1 h.heap.nodup;have j:∀ b ∈ d.map (·.1),b ∈ S.boxes.map (·.1):=fun b a=>by
  obtain⟨p,q,rfl⟩:=x9.1 a;exact o p q
 refine⟨⟨k,h.heap.rw,?_,h.heap.inn,h.heap.glob⟩,fun b a=>?_,h.keeps,h.lo⟩
 ·exact w4.2 ⟨n,e.2.1,fun x u y z=>e.2.2 x (j x u) y z⟩
 ·rcases z6.1 a with a | a
  ·exact h.mine b (z6.2 (.inl (j b a)))
  ·exact h.mine b (z6.2 (.inr a))
theorem Γ.boxes {C S a w I} (h:Γ C S a w I) (d:Bx) (e:∀ p ∈ d,xR w I p.1 p.2) (j:(d.map (·.1)).Nodup) (k:∀ p ∈ d,p.1 ∈ S.boxes.map (·.1)):Γ C (S.setBoxes d) a w I:=⟨h.1,h.2.boxes d e j k⟩
def wo (a:Bx) (b:Nat):Bx:=a.filter fun p=>!decide (p.1=b)
theorem jK {a:Bx} {b:Nat} {p:Nat × B} (h:p ∈ wo a b):p ∈ a/\p.1 ≠ b:=by simpa [wo] using h
theorem U3 {a:Bx} {b:Nat} (h:(a.map (·.1)).Nodup):((wo a b).map (·.1)).Nodup:=h.sublist (List.filter_sublist.map _)
theorem UX:∀ {d:Bx} {b:Nat} {ds:List V} {p:Nat × B},p ∈ d->p.1 ≠ b->p ∈ kZ d b ds
 | (h,cs)::r,b,ds,p,a,hne=>by
  unfold kZ;split
  ·rename_i e;subst e;rcases xb.1 a with rfl | a
   ·omega
   simp_all
  ·rcases xb.1 a with rfl | a
   ·simp
   ·exact z8 _ (UX a hne)
 | [],_,_,_,a,_=>by simp at a
theorem qew:∀ {a:Bx} {b:Nat} {cs ds:List V},zF a b=some cs->(b,.c ds) ∈ kZ a b ds
 | (j,d)::r,b,cs,ds,h=>by
  unfold kZ;split
  ·simp_all
  ·rename_i e;refine z8 _ (qew (cs:=cs) ?_);cases d <;> simpa [zF,e] using h
 | [],_,_,_,h=>by simp [zF] at h
variable {o:Oper} {K:St->Prop}
theorem zQ.weaken {C S} {j:St->Prop} (h:zQ C S o j) (x:∀ S' a w I,Γ C S' a w I->j S'->∃ d,Γ C d a w I/\K d):zQ C S o K :=
 fun a w I y Q=>Oper.wpIn_mono (fun k z ⟨S',e,n,p⟩=>by
  obtain⟨d,q,u⟩:=x S' k z e n p;exact⟨d,e,q,u⟩) (h a w I y Q)
def ZF (P:Program) (S:St) (d:Option Nat) (t q:TypeId) (s x:V) (K:St->Prop):Prop :=
 match P.underlying t with
 | some (.slice e)=>match zK P e,QN P e,kG P e with
  | some k,some h,some z=>0 < h/\z.length=k/\yx (z.map .lit)=true/\Xr P S q k x fun m p =>
   match s with
   | .lit (.slice none 0 0)=>0 < m/\m * h<=140737488355328/\∀ b c,b ∉ qL S.boxes S.rows->m<=c->K ((S.addBox b (p++zC ((c - m) * k))).put d (.lit (.slice (some ⟨b,0,none⟩) m c)))
   | .lit (.slice (some ⟨b,0,none⟩) n c)=>match zF S.boxes b with
    | some o=>o.length=c * k/\n<=c/\(n+m) * h<=140737488355328/\∀ a j,a ∉ qL (wo S.boxes b) S.rows->n+m<=j ->
      K ((S.setBoxes ((a,.c (o.take (n * k)++p++zC ((j - (n+m)) * k)))::wo S.boxes b)).put d (.lit (.slice (some ⟨a,0,none⟩) (n+m) j)))
    | none=>False
   | _=>False
  | _,_,_=>False
 | _=>False
theorem uN {P:Program} {S:St} {d:TypeId} {k:Nat} {x:V} {K a:Nat->List V->Prop} (h:Xr P S d k x K) (e:∀ n fs,K n fs->a n fs):Xr P S d k x a:=by
 unfold Xr at h ⊢;split at h
 ·simp_all
 ·simp_all
 ·split at h
  ·simp_all
  omega
 ·simp_all
 omega
theorem xC (n:Nat):(zC n).length=n:=by simp [zC]
theorem qzi {w:World} {I:Cells} {b:Nat} {A fs D:List V} (h:xR w I b (.c (A++fs++D))) (r:Nat) (q:D.length=r):xR w I b (.c (A++fs++zC r)):=by
 obtain⟨arr,e,k,o,a,p⟩:=h;refine⟨arr,e,k,o,?_,p⟩;have u:=qM a;have d:=xD (A++fs).length a;have j:=xt (A++fs).length a;rw [qBf  rfl] at d;rw [qK3 rfl] at j;have:=qC d (uR (w:=w) (I:=I) (n:=r) (xs:=arr.toList.drop (A++fs).length) (by rw [qM j,q]));simp_all
variable {t:TypeId}
theorem UR {C S} {c:Call} {s x:Operand} {X:TypeId} (ho:o.op=.call c) (hc:c.callee=.builtin .append) (ha:c.args.toList=[s,x]) (ht:c.argTypes.toList=[t,X]) (hd:zH C.N o=true)
  (h:ZF C.P S o.dst t X (VL.ev S.σ s) (VL.ev S.σ x) K):zQ C S o K:=by
 have key:zQ C S o fun H=>K H∨(∃ b j n m c k u,zF S.boxes b=some j/\j.length=c * k/\n+m<=c/\H=(S.setBoxes (kZ S.boxes b (j.take (n * k)++u++j.drop (n * k+m * k)))).put o.dst (.lit (.slice (some ⟨b,0,none⟩) (n+m) c)) /\
   (b ∉ qL (wo S.boxes b) S.rows->K ((S.setBoxes ((b,.c (j.take (n * k)++u++zC ((c - (n+m)) * k)))::wo S.boxes b)).put o.dst (.lit (.slice (some ⟨b,0,none⟩) (n+m) c))))) ∨
   ∃ b J y v,y ∉ qL S.boxes S.rows/\H=(S.addBox y J).put o.dst v/\K ((S.setBoxes ((y,.c J)::wo S.boxes b)).put o.dst v):=by
  refine UP ho hc ha ht hd ?_;unfold ZF at h;unfold ZD;split at h
  ·rename_i e hu;split at h
   ·rename_i k af z N ac hz;simp only [hu,N,ac,hz];obtain⟨Z,g2,g3,h⟩:=h;refine⟨Z,g2,g3,uN h fun m u h=>?_⟩;split at h <;> rename_i hs <;> simp only [ZE,hs]
    ·obtain⟨q,G,F⟩:=h;unfold Uh;rw [if_neg (by omega)];simp_all
    ·rename_i b n c;split at h
     ·rename_i j T;obtain⟨O,ae,G,F⟩:=h;simp only [T];refine⟨by omega,ae,?_⟩;unfold Uh;split
      ·rename_i L;refine .inr (.inl ⟨b,j,n,m,c,k,u,T,O,L,by simp,fun aa=>F b c aa L⟩)
      ·rename_i L;refine⟨G,fun y Y R h2=>.inr (.inr ⟨b,_,y,_,R,by rfl,?_⟩)⟩;refine F y Y (fun q=>R ?_) h2;simp only [qL,z6,x9] at q ⊢;rcases q with⟨p,d,rfl⟩ | q
       ·exact .inl ⟨p,(jK d).1,rfl⟩
       simp_all
     simp_all
    simp_all
   simp_all
  ·simp_all
 refine zQ.weaken key fun H a w I A M=>?_;rcases M with M | ⟨b,j,n,m,c,k,u,G,O,L,rfl,F⟩ | ⟨b,J,y,v,G,rfl,F⟩
 ·exact⟨H,A,M⟩
 ·have U:(kZ S.boxes b (j.take (n * k)++u++j.drop (n * k+m * k))).map (·.1)=S.boxes.map (·.1):=uP _ _ _;have W:=w4.1 A.2.heap.nodup;have P:((kZ S.boxes b (j.take (n * k)++u++j.drop (n * k+m * k))).map (·.1)).Nodup:=W.1;have ad:(S.boxes.map (·.1)).Nodup:=by rw [<-U];exact P
  have ab:b ∈ (kZ S.boxes b (j.take (n * k)++u++j.drop (n * k+m * k))).map (·.1):=by rw [U];exact x9.2 ⟨_,xq G,rfl⟩
  refine⟨_,?_,F fun q=>?_⟩
  rotate_left
  ·rcases z6.1 q with q | q
   ·obtain⟨p,d,e⟩:=x9.1 q;exact(jK d).2 e
   ·exact W.2.2 b ab b q rfl
  have:=A.boxes ((b,.c (j.take (n * k)++u++zC ((c - (n+m)) * k)))::wo S.boxes b) (fun p d=>?_) ?_ (fun p d=>?_)
  ·exact this
  ·rcases xb.1 d with rfl | d
   ·refine qzi (D:=j.drop (n * k+m * k)) (A.2.heap.bx (b,.c _) (qew G)) _ ?_;rw [qA8,O,Nat.sub_mul,uu]
   ·exact A.2.heap.bx p (UX (jK d).1 (jK d).2)
  ·simp only [z7,js];refine⟨fun q=>?_,U3 ad⟩;obtain⟨p,d,e⟩:=x9.1 q;exact(jK d).2 e
  ·have N:(((S.setBoxes (kZ S.boxes b (j.take (n * k)++u++j.drop (n * k+m * k)))).put o.dst (.lit (.slice (some ⟨b,0,none⟩) (n+m) c))).boxes).map (·.1)=S.boxes.map (·.1):=uP _ _ _;rw [N];rcases xb.1 d with rfl | d
   ·exact x9.2 ⟨_,xq G,rfl⟩
   ·exact x9.2 ⟨p,(jK d).1,rfl⟩
 ·refine⟨_,?_,F⟩;have P:=(w4.1 A.2.heap.nodup).1;have Q:(y::S.boxes.map (·.1)).Nodup:=P;have:=A.boxes ((y,.c J)::wo S.boxes b) (fun p d=>?_) ?_ (fun p d=>?_)
  ·exact this
  ·rcases xb.1 d with rfl | d
   ·exact A.2.heap.bx _ x6
   ·exact A.2.heap.bx p (z8 _ (jK d).1)
  ·simp only [z7,js] at Q ⊢;refine⟨fun q=>Q.1 ?_,U3 Q.2⟩;obtain⟨p,d,e⟩:=x9.1 q;exact x9.2 ⟨p,(jK d).1,e⟩
  ·rcases xb.1 d with rfl | d
   ·exact x9.2 ⟨_,x6,rfl⟩
   ·exact x9.2 ⟨p,z8 _ (jK d).1,rfl⟩
def vQ (P:Program) (S:St) (d:Option Nat) (t j:TypeId) (s x:V) (K:St->Prop):Prop :=
 match P.underlying t with
 | some (.slice e)=>match zK P e with
  | some k=>Xr P S j k x fun m h =>
   match s with
   | .lit (.slice none 0 0)=>K (S.put d (.lit (.int .i64 0)))
   | .lit (.slice (some ⟨b,o,none⟩) n _)=>match zF S.boxes b with
    | some a=>o+n * k<=a.length/\K ((S.setBoxes (kZ S.boxes b (a.take o++h.take (min m n * k)++a.drop (o+min m n * k)))).put d (.lit (.int .i64 (min m n:Nat))))
    | none=>False
   | _=>False
  | none=>False
 | _=>False
theorem qpf {C S} {c:Call} {s x:Operand} {q:TypeId} (ho:o.op=.call c) (hc:c.callee=.builtin .copy) (X:c.args.toList=[s,x]) (ht:c.argTypes.toList=[t,q]) (hd:zH C.N o=true)
  (h:vQ C.P S o.dst t q (VL.ev S.σ s) (VL.ev S.σ x) K):zQ C S o K:=by
 have Y:c.args=#[s,x]:=by rw [<-qA3 (xs:=c.args),X]
 have ae:c.argTypes=#[t,q]:=by rw [<-qA3 (xs:=c.argTypes),ht]
 unfold vQ at h;split at h
 ·rename_i e hu;split at h
  ·rename_i k H;obtain⟨m,T,h,src⟩:=US h;refine zQ.of_value fun a w I d=>?_;obtain⟨news,n1,O,D,L⟩:=src.get w I _ d.2 (d.ev x);have runs:∀ y G,(Builtin.copy_ #[t,q] o.type #[a.eval s,a.eval x]).run C.P w=.ok y G->(execOp a.eval o).run C.P w=.ok (.value y) G:=fun y G hr=>by
    simp only [execOp,ho,resolve,hc,Y,ae];simp [invoke,builtin,hr]
   split at h
   ·rename_i A;have p:=d.ev s;rw [A] at p;simp only [V.rep] at p;refine⟨goInt (0:Nat),w,_,I,runs _ w ?_,⟨d.1.put o.dst (qz hd) (v:=.lit (.int .i64 0)) (by rfl),d.2.put _ _⟩,h⟩;rw [p];have:=L 0 (KM _);simp only [qRr,List.take_zero] at this;simp [Builtin.copy_,run_underlying hu,D.len,xm H,this]
   ·rename_i b off n cc A;split at h
    ·rename_i z Z;obtain⟨ag,h⟩:=h;have p:=d.ev s;rw [A] at p;simp only [V.rep] at p;have J:=xq Z;obtain⟨arr,te,Q,R,F,q4⟩:=d.2.heap.bx _ J;have af:arr.size=z.length:=by have:=qM F;simpa using this
     have M:min m n<=m:=Nat.min_le_left _ _;have ad:min m n<=n:=Nat.min_le_right _ _;have ai:min m n * k<=n * k:=qG4 _ ad;have aj:min m n * k<=m * k:=qG4 _ M;have ah:=D.newsLen;have aa:(news.take (min m n * k)).length=min m n * k:=by simp;omega
     have N:=run_storeCells_at (P:=C.P) b off te (news.take (min m n * k)) 0 arr w Q (by omega) (fun v hv=>vl (O v (qAq hv)));simp only [Nat.add_zero,aa] at N;obtain⟨W,U⟩:=d.2.write (ds:=z.take off++T.take (min m n * k)++z.drop (off+min m n * k)) (arr':=(arr.toList.take off++news.take (min m n * k)++arr.toList.drop (off+min m n * k)).toArray) (x9.2 ⟨_,J,rfl⟩) Q
      (fun u j=>by
       simp only [z6] at j;rcases j with(j | j) | j
       ·exact R u (qAq j)
       ·exact O u (qAq j)
       ·exact R u (qEu j))
      (qC (qC (xD _ F) (xD _ n1)) (xt _ F))
     refine⟨goInt ((min m n:Nat):Int),_,_,I,runs _ _ ?_,⟨(d.1.mono U).put o.dst (qz hd) (by rfl),W.put _ _⟩,h⟩;rw [p];have ac:=L _ M;have ab:Nat.min m n=min m n:=rfl;simp only [Builtin.copy_,qPa,List.getElem?_cons_zero,List.getElem?_cons_succ,Sem.run_bind,run_underlying hu,Result.andThen_ok,D.len,xm H,ab,ac,N,Sem.run_pure]
    simp_all
   simp_all
  simp_all
 simp_all
def xd (P:Program) (S:St) (d:Option Nat) (t:TypeId) (l c:V) (K:St->Prop):Prop :=
 match P.underlying t,l,c with
 | some (.slice e),.lit (.int _ l),.lit (.int _ c)=>match zK P e,QN P e,kG P e with
  | some k,some a,some z=>z.length=k/\0 < k/\yx (z.map .lit)=true/\0<=l/\l<=c/\c.toNat * a<=140737488355328/\c<=140737488355328 /\
    ∀ b,b ∉ qL S.boxes S.rows->K ((S.addBox b ((List.replicate c.toNat (z.map V.lit)).flatten)).put d (.lit (.slice (some ⟨b,0,none⟩) l.toNat c.toNat)))
  | _,_,_=>False
 | _,_,_=>False
theorem qkc (z:Array Value):∀ n:Nat,(madeCells z (n * z.size)).toList=(List.replicate n z.toList).flatten:=by
 intro n;apply qO8;intro i;have k:((List.replicate n z.toList).flatten).length=n * z.size:=by simp
 by_cases d:i < n * z.size
 ·have e:(madeCells z (n * z.size)).toList[i]? = some (z[i % z.size]!):=by
   simp [madeCells,d]
  rw [e];have:∀ (n i:Nat),i < n * z.size->((List.replicate n z.toList).flatten)[i]? = some (z[i % z.size]!):=by
   intro n
   induction n with
   | zero=>simp
   | succ n j =>
    intro i d;rw [qQg,qKs,qQe];split
    ·rename_i h;have a:i < z.size:=by simpa using h
     rw [Nat.mod_eq_of_lt a,getElem!_pos z i a];simp
    ·rename_i h;have a:z.size<=i:=by simpa using h
     have:=j (i - z.size) (by rw [uu] at d;omega);simp only [Array.length_toList];rw [this,<-Nat.mod_eq_sub_mod a]
  simp_all
 ·rw [qMa (by simp [madeCells];omega),qMa (by omega)]
theorem Yr {w I} (z:List Value):∀ n:Nat,V.reps w I ((List.replicate n (z.map V.lit)).flatten) ((List.replicate n z).flatten)
 | 0=>by simp [V.reps]
 | n+1=>by
  rw [qQg,qQg,qKs,qKs];exact qC (xg z) (Yr z n)
theorem Yh {C S} {l c:Operand} (U:o.op=.makeSlice t l c) (hd:zH C.N o=true)
  (h:xd C.P S o.dst t (VL.ev S.σ l) (VL.ev S.σ c) K):zQ C S o K:=by
 unfold xd at h;split at h
 ·rename_i e aa F kc d hu Q L;split at h
  ·rename_i k ab z y J X;obtain⟨Y,ad,W,G,T,hb,ac,H⟩:=h;obtain⟨i,N,rfl,rfl,j,O,rfl⟩:=qxp y J X;have Z:j.cells.size=i.size:=by simpa using Y
   refine zQ.of_value fun a w I n=>?_;have q:=n.ev l;have p:=n.ev c;rw [Q] at q;rw [L] at p;simp only [V.rep] at q p;have M:(i.bytes:Int) * d<=281474976710656:=by
    have:(i.bytes:Int) * d=((d.toNat * i.bytes:Nat):Int):=by
     rw [qO4,qPm (by omega),qQv]
    rw [this];omega
   have ae:=run_make (P:=C.P) w t e i j hu N O aa kc F d G T M (by omega);have x:(madeCells j.cells (d.toNat * i.size)).toList=(List.replicate d.toNat j.cells.toList).flatten:=by
    have:=qkc j.cells d.toNat;rwa [Z] at this
   refine⟨_,_,_,I,?_,n.boxedS o.dst (qz hd) (madeCells j.cells (d.toNat * i.size)) ⟨e,qbs y⟩ ((List.replicate d.toNat (j.cells.toList.map V.lit)).flatten) F.toNat d.toNat ?_ ?_,H _ n.2.fresh⟩
   ·simp only [execOp,U,q,p];simp_all
   ·intro u A;rw [x] at A;obtain⟨l',R,D⟩:=qQz.1 A;rw [List.eq_of_mem_replicate R] at D;exact Kh W u D
   ·rw [x];exact Yr _ _
  simp_all
 simp_all
def Xm (P:Program) (S:St) (d:Option Nat) (t u:TypeId) (s x:V) (K:St->Prop):Prop :=
 match P.underlying t,P.underlying u,s,x with
 | some (.slice e),some (.int _),.lit (.slice (some ⟨b,o,none⟩) n c),.lit (.int _ j)=>match zK P e,QN P e,kG P e,zF S.boxes b with
  | some k,some p,some z,some q=>0 < p/\0 < k/\z.length=k/\yx (z.map .lit)=true/\0 < j/\o+n * k<=q.length/\c < n+j.toNat/\(n+j.toNat) * p<=140737488355328 /\
    ∀ a h,a ∉ qL S.boxes S.rows->n+j.toNat<=h->K ((S.addBox a ((q.drop o).take (n * k)++zC ((h - n) * k))).put d (.lit (.slice (some ⟨a,0,none⟩) (n+j.toNat) h)))
  | _,_,_,_=>False
 | _,_,_,_=>False
theorem We {P:Program} (w:World) (t h ty e:TypeId) (H G:IntKind) (i:TypeInfo) (z:Value) (C:P.underlying t=some (.slice e)) (D:P.underlying h=some (.int H)) (o:P.info? e=some i) (F:i.zero=some z) (base:Option Addr) (a d:Nat) (olds:List Value)
  (A:(Builtin.firstCells i.size a (.slice base a d)).run P w.drew=.ok olds.toArray w.drew) (j:Int) (L:0<=j) (Q:j * i.bytes<=281474976710656) (q:j<=9223372036854775807) (u:0 < i.size) (p:0 < j.toNat)
  (O:d < a+j.toNat) (M:((a+j.toNat:Nat):Int)<=9223372036854775807) (N:Builtin.nextslicecap (a+j.toNat) d * i.bytes<=281474976710656) :
  (Builtin.append_ #[t,h] ty #[.slice base a d,.int G j]).run P w =
   .ok (.slice (some ⟨w.heap.size,0,none⟩) (a+j.toNat) (grownCap w (a+j.toNat) d e))
    (w.drew.alloc (.cells ((olds++(Builtin.zeroCells z.cells j.toNat).toList).toArray++Builtin.zeroCells z.cells (grownCap w (a+j.toNat) d e - (a+j.toNat))) e)):=by
 have x:¬ (a+j.toNat<=d):=by omega
 have K:IntKind.i64.wrap j=j:=IntWalk.i64_in j ⟨by omega,q⟩;have I:¬ j < 0:=by omega
 have J:¬ (281474976710656 < j * (i.bytes:Int)):=by omega
 have n:¬ (9223372036854775807 < ((a:Int)+max j 0)):=by omega
 have k:¬ (281474976710656 < Builtin.nextslicecap (a+j.toNat) d * i.bytes):=by omega
 have y:¬ (j.toNat * i.size=0):=by
  have:=Nat.mul_pos p u;omega
 simp [Builtin.append_,run_underlying C,run_underlying D,sizeOf,typeInfo,zeroValue,o,F,asInt,asIntOf,K,I,J,x,n,k,y,Question.forced,A,newRow,grownCap];congr 2;apply qMc;simp
theorem qph {C S} {c:Call} {s x:Operand} {F:TypeId} (ho:o.op=.call c) (hc:c.callee=.builtin .append) (U:c.args.toList=[s,x]) (ht:c.argTypes.toList=[t,F]) (hd:zH C.N o=true)
  (h:Xm C.P S o.dst t F (VL.ev S.σ s) (VL.ev S.σ x) K):zQ C S o K:=by
 have W:c.args=#[s,x]:=by rw [<-qA3 (xs:=c.args),U]
 have ai:c.argTypes=#[t,F]:=by rw [<-qA3 (xs:=c.argTypes),ht]
 unfold Xm at h;split at h
 ·rename_i e kx b off n d kv j hu hx hs y;split at h
  ·rename_i k al z J O Z hz X;obtain⟨Y,ad,aj,af,am,ao,hg,M,T⟩:=h;obtain⟨i,hi,rfl,rfl,q,aa,rfl⟩:=qxp O Z hz;have ak:q.cells.size=i.size:=by simpa using aj
   have Q:=Kh af;refine zQ.of_value fun a w I D=>?_;have H:=D.ev s;have rx:=D.ev x;rw [hs] at H;rw [y] at rx;simp only [V.rep] at H rx;obtain⟨arr,te,q1,q2,R,q4⟩:=D.2.heap.bx _ (xq X);have an:arr.size=J.length:=by have:=qM R;simpa using this
   have N:=D.drew;have ae:(Builtin.firstCells i.size n (.slice (some ⟨b,off,none⟩) n d)).run C.P w.drew=.ok ((arr.toList.drop off).take (n * i.size)).toArray w.drew:=by
    refine run_firstCells_some w.drew i.size n ⟨b,off,none⟩ n d _ (by simp;omega) fun j u y=>?_;rw [Addr.add_lit];rw [qLd] at y;split at y
    ·rw [qOm] at y;have:w.drew.heap[b]? = some (.cells arr te.1 (0,0)):=q1;simp only [World.cell?, this,Option.isSome_none,kA,if_false];simp_all
    ·cases y
   have ap:n+j.toNat<=140737488355328:=km (qOj _ Y) M;have ab:0 < j.toNat:=by omega
   have L:0<=j:=by omega
   ·have ac:j * i.bytes<=281474976710656:=by
     have G:j.toNat * i.bytes<=(n+j.toNat) * i.bytes:=qG4 _ (by omega);have A:j * (i.bytes:Int)=((j.toNat * i.bytes:Nat):Int):=by rw [qO4,qPm L]
     rw [A];omega
    have ag:=We (P:=C.P) w t F o.type e kx kv i q hu hx hi aa (some ⟨b,off,none⟩) n d _ ae j L ac (by omega) ad ab hg (by omega) (growslice_fits (by omega) M);refine⟨.slice (some ⟨w.heap.size,0,none⟩) (n+j.toNat) (grownCap w (n+j.toNat) d e),w.drew.alloc (.cells (((arr.toList.drop off).take (n * i.size)++(Builtin.zeroCells q.cells j.toNat).toList).toArray++Builtin.zeroCells q.cells (grownCap w (n+j.toNat) d e - (n+j.toNat))) e),
     _,I,?_,?_,T _ (grownCap w (n+j.toNat) d e) (by simpa using N.2.fresh) (grownCap_ge w (n+j.toNat) d e)⟩
    ·simp only [execOp,ho,resolve,hc,W,ai];simp [invoke,builtin,H,rx,ag]
    ·have:=N.boxedS o.dst (qz hd) (((arr.toList.drop off).take (n * i.size)++(Builtin.zeroCells q.cells j.toNat).toList).toArray++Builtin.zeroCells q.cells (grownCap w (n+j.toNat) d e - (n+j.toNat))) ⟨e,qbs O⟩
      ((J.drop off).take (n * i.size)++zC ((grownCap w (n+j.toNat) d e - n) * i.size)) (n+j.toNat) (grownCap w (n+j.toNat) d e)
      (fun u p=>by
       simp only [qPo,z6] at p;rcases p with(p | p) | p
       ·exact q2 u (qEu (qAq p))
       ·exact Q u (yk p)
       ·exact Q u (yk p))
      (by
       have ah:=(qV.drew (fun _=>True) w I).stays;simp only [qPo,jm];refine qC (V.reps_mono ah _ _ (xD _ (xt _ R))) (uR ?_);have G:=JH q.cells j.toNat;have A:=JH q.cells (grownCap w (n+j.toNat) d e - (n+j.toNat));have h3:=grownCap_ge w (n+j.toNat) d e;rw [ak] at G A;simp only [zr,Array.length_toList,G,A];rw [<-uu];congr 1;omega)
     simp_all
  simp_all
 simp_all
def veq:Value->Value->Bool
 | .bool a,.bool b=>a == b
 | .int k a,.int k' b=>decide (k=k') && decide (a=b)
 | .string a,.string b=>decide (a=b)
 | _,_=>false
def kQ:List Value->List Value->Bool
 | [],[]=>true
 | x::xs,y::ys=>veq x y && kQ xs ys
 | _,_=>false
def Y9 (P:Program) (f:TypeId->Option (List Sh)):Nat->List Field->Option (List Sh)
 | _,[]=>some []
 | o, fd :: r => if fd.name = "_" ∨ fd.offset ≠ o then none else match f fd.type, zK P fd.type with
  | some l,some c=>if l.length=c then (Y9 P f (o+c) r).map (l++·) else none
  | _,_=>none
def u7 (P:Program):Nat->TypeId->Option (List Sh)
 | 0,_=>none
 | d+1,t=>match P.underlying t with
  | some .bool=>some [.b]
  | some (.int k)=>some [.i k]
  | some .string=>some [.s]
  | some (.array n e)=>match u7 P d e,zK P e with
   | some l,some c=>if l.length=c then some ((List.replicate n l).flatten) else none
   | _,_=>none
  | some (.struct fs)=>if P.stoodInHeld t=true then none else Y9 P (u7 P d) 0 fs.toList
  | _=>none
def VX (P:Program) (t:TypeId) (xs:List Value):Value:=if xO P t=some true then .agg xs.toArray else xs.headD undef
theorem xQ:∀ {l:List Sh} {xs:List Value},xk l xs=true->xs.length=l.length
 | [],[],_=>rfl
 | _::_,_::_,h=>by simp only [xk,k7] at h;simp [xQ h.2]
 | [],_::_,h=>by simp [xk] at h
 | _::_,[],h=>by simp [xk] at h
theorem wD:∀ {l d:List Sh} {xs:List Value},xk (l++d) xs=true->xk l (xs.take l.length)=true/\xk d (xs.drop l.length)=true
 | [],d,xs,h=>by exact qD
 | a::l,d,x::xs,h=>by
  simp only [List.cons_append,xk,k7] at h;have:=wD h.2;simp [xk,h.1,this]
 | a::l,d,[],h=>by simp [xk] at h
section
variable {P:Program} {w:World}
theorem jv {e:TypeId} {c:Nat} {a:Array Value} {off:Nat} {d:Nat} {l:List Sh} (h:u7 P d e=some l) (hc:zK P e=some c) (o:l.length=c) (n:xk l ((a.toList.drop off).take c)=true) :
  (part e a off).run P w=.ok (VX P e ((a.toList.drop off).take c)) w:=by
 have q:∃ b,xO P e=some b/\(b=false->c=1):=by
  cases d with
  | zero=>simp [u7] at h
  | succ d =>
   unfold u7 at h;unfold xO;split at h <;> rename_i hu <;> try simp only [hu]
   ·exact⟨false,rfl,fun _=>by cases h;simp_all⟩
   ·exact⟨false,rfl,fun _=>by cases h;simp_all⟩
   ·exact⟨false,rfl,fun _=>by cases h;simp_all⟩
   ·simp
   ·simp
   simp_all
 obtain⟨b,j,k⟩:=q;have p:=xQ n;cases b with
 | true =>
  simp only [part,Sem.run_bind,ZK j,Result.andThen_ok,if_true,xm hc,Sem.run_pure,VX,j];congr 2;apply qMc;simp
 | false =>
  obtain rfl:=k rfl;simp only [o] at p;have:∃ x,a[off]? = some x/\(a.toList.drop off).take 1=[x]:=by
   cases hd:a.toList.drop off with
   | nil=>simp_all
   | cons x r =>
    refine⟨x,?_,by simp⟩;have:a.toList[off]? = some x:=by
     have:=congrArg (fun l=>l[0]?) hd;simpa [qOm] using this
    simp_all
  obtain⟨x,u,y⟩:=this;simp only [part,Sem.run_bind,ZK j,Result.andThen_ok,kA,if_false,u,Sem.run_pure,VX,j,y];simp
omit P w in
theorem Za:∀ {A d B e:List Value},A.length=B.length->kQ (A++d) (B++e)=(kQ A B && kQ d e)
 | [],_,[],_,_=>by rfl
 | a::A,d,b::B,e,h=>by
  simp only [List.length_cons,Nat.succ.injEq] at h;simp only [List.cons_append,kQ,Za h,qRj]
 | [],_,_::_,_,h=>by simp at h
 | _::_,_,[],_,h=>by simp at h
def qAt (P:Program) (d:Nat):Prop:=∀ t l,u7 P d t=some l->∀ D,d<=D->∀ a e w,xk l a=true->xk l e=true->(Op.equalIn D t (VX P t a) (VX P t e)).run P w=.ok (kQ a e) w
theorem qal {d:Nat} (x:qAt P d) {e:TypeId} {l:List Sh} {c:Nat} (k:u7 P d e=some l) (hc:zK P e=some c) (n:l.length=c) {D:Nat} (u:d<=D) (X Y:Array Value):∀ (m j:Nat) (w:World),
  xk ((List.replicate m l).flatten) (X.toList.drop (j * c))=true->xk ((List.replicate m l).flatten) (Y.toList.drop (j * c))=true ->
  (Op.eqItems D e c X Y (List.range' j m)).run P w=.ok (kQ (X.toList.drop (j * c)) (Y.toList.drop (j * c))) w
 | 0,j,w,o,p=>by
  have C:=xQ o;have F:=xQ p;simp at C F;have y:X.toList.drop (j * c)=[]:=qFs (by simp;omega);have z:Y.toList.drop (j * c)=[]:=qFs (by simp;omega);simp [Op.eqItems,y,z,kQ]
 | m+1,j,w,o,p=>by
  simp only [List.replicate_succ,List.flatten_cons] at o p;have a:=wD o;have h:=wD p;rw [n] at a h;simp only [qK1] at a h;rw [show j * c+c=(j+1) * c by rw [uu];omega] at a h;have r:=qal x k hc n u X Y m (j+1) w a.2 h.2;simp only [List.range'_succ,Op.eqItems,Sem.run_bind,jv k hc n a.1,jv k hc n h.1,Result.andThen_ok,x e l k D u _ _ w a.1 h.1];have ex:X.toList.drop (j * c)=(X.toList.drop (j * c)).take c++X.toList.drop ((j+1) * c):=by
   rw [show (j+1) * c=j * c+c by rw [uu];omega,<-qK1,qBq]
  have A:Y.toList.drop (j * c)=(Y.toList.drop (j * c)).take c++Y.toList.drop ((j+1) * c):=by
   rw [show (j+1) * c=j * c+c by rw [uu];omega,<-qK1,qBq]
  have G:kQ (X.toList.drop (j * c)) (Y.toList.drop (j * c))=(kQ ((X.toList.drop (j * c)).take c) ((Y.toList.drop (j * c)).take c) && kQ (X.toList.drop ((j+1) * c)) (Y.toList.drop ((j+1) * c))):=by
   rw [<-Za (by rw [xQ a.1,xQ h.1]),<-ex,<-A]
  rw [G];cases q:kQ ((X.toList.drop (j * c)).take c) ((Y.toList.drop (j * c)).take c)
  ·rfl
  assumption
theorem Y5 {d:Nat} (z:qAt P d) {D:Nat} (u:d<=D) (X Y:Array Value):∀ (fs:List Field) (o:Nat) (l:List Sh) (w:World),Y9 P (u7 P d) o fs=some l ->
  xk l (X.toList.drop o)=true->xk l (Y.toList.drop o)=true->(Op.eqFields D X Y fs).run P w=.ok (kQ (X.toList.drop o) (Y.toList.drop o)) w
 | [],o,l,w,h,hx,hy=>by
  simp only [Y9,qAo] at h;subst h;have k:=xQ hx;have n:=xQ hy;simp at k n;have A:X.toList.drop o=[]:=qFs (by simp;omega);have C:Y.toList.drop o=[]:=qFs (by simp;omega);simp [Op.eqFields,A,C,kQ]
 | f::fs,o,l,w,h,hx,hy=>by
  simp only [Y9] at h;split at h
  ·cases h
  ·rename_i y;have H : f.name ≠ "_" := fun e => y (.inl e);have I:f.offset=o:=qRi fun e=>y (.inr e);split at h
   ·rename_i J c k x;split at h
    ·rename_i p;simp only [qMp] at h;obtain⟨K,n,rfl⟩:=h;have a:=wD hx;have j:=wD hy;rw [p] at a j;simp only [qK1] at a j;have r:=Y5 z u X Y fs (o+c) K w n a.2 j.2;simp only [Op.eqFields,if_pos H,I,Sem.run_bind,jv k x p a.1,jv k x p j.1,Result.andThen_ok,z f.type J k D u _ _ w a.1 j.1];have ex:X.toList.drop o=(X.toList.drop o).take c++X.toList.drop (o+c):=by rw [<-qK1,qBq]
     have F:Y.toList.drop o=(Y.toList.drop o).take c++Y.toList.drop (o+c):=by rw [<-qK1,qBq]
     have G:kQ (X.toList.drop o) (Y.toList.drop o)=(kQ ((X.toList.drop o).take c) ((Y.toList.drop o).take c) && kQ (X.toList.drop (o+c)) (Y.toList.drop (o+c))):=by
      rw [<-Za (by rw [xQ a.1,xQ j.1]),<-ex,<-F]
     rw [G];cases q:kQ ((X.toList.drop o).take c) ((Y.toList.drop o).take c)
     ·rfl
     assumption
    ·cases h
   ·cases h
variable {xs:List Value}
omit P w in
theorem qx4 (h:xk [.b] xs=true):∃ a,xs=[.bool a]:=by
 match xs with
 | []=>simp [xk] at h
 | [x]=>cases x <;> simp [xk,fit] at h;simp
 | _::_::_=>simp [xk] at h
omit P w in
theorem qx3 {k:IntKind} (h:xk [.i k] xs=true):∃ a,xs=[.int k a]:=by
 match xs with
 | []=>simp [xk] at h
 | [x]=>cases x <;> simp [xk,fit] at h;simp_all
 | _::_::_=>simp [xk] at h
omit P w in
theorem qx2 (h:xk [.s] xs=true):∃ a,xs=[.string a]:=by
 match xs with
 | []=>simp [xk] at h
 | [x]=>cases x <;> simp [xk,fit] at h;simp
 | _::_::_=>simp [xk] at h
theorem Y8:∀ d,qAt P d
 | 0,t,l,h,_,_,_,_,_,_,_=>by simp [u7] at h
 | d+1,t,l,h,D,hD,xs,ys,w,hx,hy=>by
  obtain⟨D,rfl⟩:∃ x,D=x+1:=⟨D - 1,by omega⟩;have q:d<=D:=by omega
  unfold u7 at h;split at h
  ·rename_i hu;cases h;obtain⟨a,rfl⟩:=qx4 hx;obtain⟨b,rfl⟩:=qx4 hy;have j:xO P t=some false:=by simp [xO,hu]
   simp only [VX,j,qAo,kA,if_false,List.headD];rw [run_equalIn_bool' w D t a b hu];simp [kQ,veq]
  ·rename_i k hu;cases h;obtain⟨a,rfl⟩:=qx3 hx;obtain⟨b,rfl⟩:=qx3 hy;have j:xO P t=some false:=by simp [xO,hu]
   simp only [VX,j,qAo,kA,if_false,List.headD];rw [run_equalIn_int w D t k k a b hu];congr 1;simp only [kQ,veq,decide_true,qOa,qM9];rfl
  ·rename_i hu;cases h;obtain⟨a,rfl⟩:=qx2 hx;obtain⟨b,rfl⟩:=qx2 hy;have j:xO P t=some false:=by simp [xO,hu]
   simp only [VX,j,qAo,kA,if_false,List.headD];rw [run_equalIn_string w D t a b hu,qng];simp [kQ,veq]
  ·rename_i n e hu;split at h
   ·rename_i G c y o;split at h
    ·rename_i C;cases h;have j:xO P t=some true:=by simp [xO,hu]
     obtain⟨i,u⟩:∃ i,P.info? e=some i:=by
      replace o:=uM o;cases u:P.info? e with
      | none=>simp_all
      | some i=>simp
     have z:P.cellsOf e=c:=by
      replace o:=uM o;simp [Program.cellsOf,o]
     simp only [VX,j,if_true];rw [run_equalIn_array w D xs.toArray ys.toArray hu u,z,List.range_eq_range'];have:=qal (Y8 d) y o C q xs.toArray ys.toArray n 0 w (by simp_all) (by simp_all);simp_all
    ·cases h
   ·cases h
  ·rename_i p hu;split at h
   ·cases h
   ·rename_i F;have j:xO P t=some true:=by simp [xO,hu]
    have A:P.fieldsOf t=p:=by simp [Program.fieldsOf,hu]
    simp only [VX,j,if_true];rw [run_equalIn_struct w D t xs.toArray ys.toArray (by simp_all) (by simp_all),A];have:=Y5 (Y8 d) q xs.toArray ys.toArray p.toList 0 l w h (by simp_all) (by simp_all);simp_all
  ·cases h
end
section
variable {P:Program}
theorem qzy (a b:ByteArray):(a == b)=decide (a=b):=by
 rw [qOg,decide_eq_true_eq];cases a;cases b;rename_i a b;show (a == b)=true↔_;simp
theorem Jg {d:Nat} {em:Bool} {D:Nat} {e:TypeId} {l:List Sh} {c:Nat} (k:u7 P d e=some l) (hc:zK P e=some c) (h:l.length=c) (n:∀ xs w,xk l xs=true->(Instr.checkKey em D e (VX P e xs)).run P w=.ok () w)
  (X:Array Value) (w:World):∀ (m j:Nat),xk ((List.replicate m l).flatten) (X.toList.drop (j * c))=true ->
  (forIn (List.range' j m) PUnit.unit fun i _=>(do Instr.checkKey em D e (<-part e X (i * (<-sizeOf e)));pure (ForInStep.yield PUnit.unit):Sem (ForInStep PUnit))).run P w=.ok PUnit.unit w
 | 0,j,_=>by simp
 | m+1,j,hx=>by
  simp only [List.replicate_succ,List.flatten_cons] at hx;have a:=wD hx;rw [h] at a;simp only [qK1] at a;rw [show j * c+c=(j+1) * c by rw [uu];omega] at a;have r:=Jg k hc h n X w m (j+1) a.2;simp only [List.range'_succ,List.forIn_cons,Sem.run_bind,xm hc,jv k hc h a.1,n _ w a.1,Result.andThen_ok,Sem.run_pure];exact r
theorem KJ {d:Nat} {em:Bool} {D:Nat} (p:∀ t l,u7 P d t=some l->∀ xs w,xk l xs=true->(Instr.checkKey em D t (VX P t xs)).run P w=.ok () w) (X:Array Value) (w:World):∀ (fs:List Field) (o:Nat) (l:List Sh),Y9 P (u7 P d) o fs=some l ->
  xk l (X.toList.drop o) = true → (forIn fs PUnit.unit fun f _ => if f.name ≠ "_" then (do let x ← part f.type X f.offset; Instr.checkKey em D f.type x; pure (ForInStep.yield PUnit.unit) : Sem (ForInStep PUnit)) else pure (ForInStep.yield PUnit.unit)).run P w = .ok PUnit.unit w
 | [],o,l,_,_=>by simp
 | f::fs,o,l,h,hx=>by
  simp only [Y9] at h;split at h
  ·cases h
  ·rename_i n;have y : f.name ≠ "_" := fun e => n (.inl e);have z:f.offset=o:=qRi fun e=>n (.inr e);split at h
   ·rename_i C c j u;split at h
    ·rename_i k;simp only [qMp] at h;obtain⟨A,q,rfl⟩:=h;have a:=wD hx;rw [k] at a;simp only [qK1] at a;have r:=KJ p X w fs (o+c) A q a.2;simp only [List.forIn_cons,Sem.run_bind,y,ne_eq,not_false_eq_true,if_true,z,jv j u k a.1,p _ _ j _ w a.1,Result.andThen_ok,Sem.run_pure];exact r
    ·cases h
   ·cases h
theorem u9 {em:Bool}:∀ d t l,u7 P d t=some l->∀ D,d<=D->∀ xs w,xk l xs=true->(Instr.checkKey em D t (VX P t xs)).run P w=.ok () w
 | 0,t,l,h,_,_,_,_,_=>by simp [u7] at h
 | d+1,t,l,h,D,hD,xs,w,o=>by
  obtain⟨D,rfl⟩:∃ u,D=u+1:=⟨D - 1,by omega⟩;have y:d<=D:=by omega
  have p:=fun t l h xs w o=>u9 (em:=em) d t l h D y xs w o;unfold u7 at h;split at h
  ·rename_i hu;cases h;obtain⟨a,rfl⟩:=qx4 o;have j:xO P t=some false:=by simp [xO,hu]
   simp [VX,j,Instr.checkKey,run_underlying hu]
  ·rename_i k hu;cases h;obtain⟨a,rfl⟩:=qx3 o;have j:xO P t=some false:=by simp [xO,hu]
   simp [VX,j,Instr.checkKey,run_underlying hu]
  ·rename_i hu;cases h;obtain⟨a,rfl⟩:=qx2 o;have j:xO P t=some false:=by simp [xO,hu]
   simp [VX,j,Instr.checkKey,run_underlying hu]
  ·rename_i n e hu;split at h
   ·rename_i C c q z;split at h
    ·rename_i A;cases h;have j:xO P t=some true:=by simp [xO,hu]
     simp only [VX,j,if_true,Instr.checkKey,Sem.run_bind,run_underlying hu,Result.andThen_ok];simp only [Std.Legacy.Range.forIn_eq_forIn_range',Std.Legacy.Range.size,Nat.sub_zero,Nat.add_one_sub_one,Nat.div_one];have:=Jg q z A (fun xs w o=>p e C q xs w o) xs.toArray w n 0 (by simpa using o)
     first | exact this | (rw [this];rfl)
    ·cases h
   ·cases h
  ·rename_i x hu;split at h
   ·cases h
   ·have j:xO P t=some true:=by simp [xO,hu]
    simp only [VX,j,if_true,Instr.checkKey,Sem.run_bind,run_underlying hu,Result.andThen_ok];rw [<-Array.forIn_toList];have:=KJ p xs.toArray w x.toList 0 l h (by simpa using o)
    first | exact this | (rw [this];rfl)
  ·cases h
theorem qna:∀ {e:List Sh} {xs d:List Value},xk e xs=true->xk e d=true->(kQ xs d=true↔xs=d)
 | [],[],[],_,_=>by decide
 | a::e,x::xs,y::d,hx,hy=>by
  simp only [xk,k7] at hx hy;have h:=qna hx.2 hy.2;simp only [kQ,k7,h,qKi,and_congr_left_iff];intro _;have j:=hx.1;have k:=hy.1;cases a <;> cases x <;> simp only [fit,kA] at j <;> cases y <;> simp only [fit,kA] at k <;> simp_all [veq]
 | [],_::_,_,hx,_=>by simp [xk] at hx
 | [],[],_::_,_,hy=>by simp [xk] at hy
 | _::_,[],_,hx,_=>by simp [xk] at hx
 | _::_,_::_,[],_,hy=>by simp [xk] at hy
def qrh (P:Program) (t:TypeId):Option (List Sh × Bool):=match u7 P 12 t,xO P t with | some l,some b=>some (l,b) | _,_=>none
variable {t:TypeId} {ks:List Sh × Bool}
theorem Qs {v:Value} (a:qrh P t=some ks) (h:wd ks v=true):v=VX P t v.cells.toList/\u7 P 12 t=some ks.1/\xk ks.1 v.cells.toList=true:=by
 unfold qrh at a;split at a
 ·rename_i l b d e;cases a;simp only [wd,k7] at h;refine⟨?_,d,h.1⟩;cases b <;> cases v <;> simp_all [VX,Value.cells]
 simp_all
theorem qCv {a b:Value} (d:wd ks a=true) (hb:wd ks b=true) (h:a.cells.toList=b.cells.toList):a=b:=by
 simp only [wd,k7] at d hb;cases a <;> cases b <;> simp_all [Value.cells]
 all_goals (first | exact qMc h | skip)
def uG (a b:Value):Bool:=kQ a.cells.toList b.cells.toList
theorem JK {a b:Value} (j:wd ks a=true) (hb:wd ks b=true):uG a b=true↔a=b:=by
 have d:=j;have h:=hb;simp only [wd,k7] at d h;unfold uG;rw [qna d.1 h.1];exact⟨qCv j hb,fun e=>e▸rfl⟩
def wu (k:Value):List MapEntry->Nat->Option (Nat × Value)
 | [],_=>none
 | e::es,i=>if uG k e.key=true then some (i,e.val) else wu k es (i+1)
theorem WX {kind:TypeDesc} {a b:Value} {r:Bool} (e:wd ks a=true) (h:Instr.sameNow kind a b=some r):r=uG a b:=by
 unfold Instr.sameNow at h;split at h
 ·split at h
  ·rename_i d;subst d;cases h;simp only [uG,Value.cells,kQ,veq,decide_true,qOa,qM9];rfl
  ·cases h
 ·cases h;simp only [uG,Value.cells,kQ,veq,qM9,qzy]
 ·cases h;simp only [uG,Value.cells,kQ,veq,qM9]
 ·cases h
theorem qas {ks:List Sh × Bool} {kind:TypeDesc} {k:Value} (a:wd ks k=true):∀ {es:List MapEntry} {i:Nat} {r:Option (Nat × Value)},Instr.findNow kind k es i=some r->r=wu k es i
 | [],i,r,h=>by simp [Instr.findNow] at h;simp [wu,h]
 | e::es,i,r,h=>by
  unfold Instr.findNow at h;split at h
  ·rename_i d;have:=WX a d;simp only [qAo] at h;simp [wu,<-this,h]
  ·rename_i d;have:=WX a d;simp only [wu,<-this,kA,if_false];exact qas a h
  ·cases h
theorem Zf {t:TypeId} {ks:List Sh × Bool} {k:Value} (a:qrh P t=some ks) (d:wd ks k=true) (w:World):∀ (es:List MapEntry) (i:Nat),(∀ e ∈ es,wd ks e.key=true)->(Instr.findAsking t k es i).run P w=.ok (wu k es i) w
 | [],i,_=>by rfl
 | e::es,i,h=>by
  obtain⟨n,p,f1⟩:=Qs a d;obtain⟨o,_,f2⟩:=Qs a (h e x6);have:=Y8 12 t ks.1 p 10000 (by omega) _ _ w f1 f2;rw [<-n,<-o] at this;have u:=Zf a d w es (i+1) fun j q=>h j (z8 _ q);simp only [Instr.findAsking,Sem.run_bind,Op.equal,show Op.maxDepth=10000 from rfl,this,Result.andThen_ok,wu];change (if uG k e.key=true then _ else _:Sem _).run P w=_;cases uG k e.key
  ·assumption
  ·simp
theorem jw {k:Value} (j:qrh P t=some ks) (a:wd ks k=true) (w:World) (es:List MapEntry) (h:∀ e ∈ es,wd ks e.key=true):(Instr.findKey t k es).run P w=.ok (wu k es 0) w:=by
 have hu:∃ u,P.underlying t=some u:=by
  obtain⟨_,d,_⟩:=Qs j a;unfold u7 at d;cases hu:P.underlying t with
  | none=>simp [hu] at d
  | some u=>simp
 obtain⟨u,hu⟩:=hu;simp only [Instr.findKey,Sem.run_bind,run_underlying hu,Result.andThen_ok];split
 ·rename_i r n;rw [qas a n];rfl
 ·exact Zf j a w es 0 h
theorem QQ {a:Sh} {x:Value} (h:fit a x=true) (n:Nat):Instr.sameBits n x x=true:=by
 cases a <;> cases x <;> simp only [fit,kA] at h <;> cases n <;> simp [Instr.sameBits,qzy]
theorem qgj:∀ {e:List Sh} {xs:List Value},xk e xs=true->∀ x ∈ xs,∃ a,fit a x=true
 | _::_,_::_,h,x,d=>by
  simp only [xk,k7] at h;rcases xb.1 d with rfl | d
  ·exact⟨_,h.1⟩
  ·exact qgj h.2 x d
 | [],[],_,_,d=>by cases d
 | [],_::_,h,_,_=>by simp [xk] at h
 | _::_,[],h,_,_=>by simp_all
theorem UY {k:Value} (o:wd ks k=true) (w:World):(Instr.keyThatStays k k).run P w=.ok k w:=by
 have x:Instr.sameBits 10000 k k=true:=by
  simp only [wd,k7] at o;have n:=qgj o.1;by_cases j:∃ d,k=.agg d
  ·obtain⟨d,rfl⟩:=j;show Instr.sameBits (9999+1) _ _=true;simp only [Instr.sameBits,beq_self_eq_true,qOa,qNh];intro p u;obtain⟨i,q,e⟩:=qOk u;rw [List.getElem_zip] at e;rw [<-e];obtain⟨a,h⟩:=n (d.toList[i]'(by simp at q ⊢;omega)) (by simp [Value.cells]);exact QQ h 9999
  ·have y:k.cells.toList=[k]:=by
    cases k <;> simp [Value.cells];rename_i d;exact absurd ⟨d,rfl⟩ j
   obtain⟨a,h⟩:=n k (by simp_all);exact QQ h 10000
 simp [Instr.keyThatStays,x]
abbrev Ent:=Nat × Value × V
def findM (es:List Ent) (k:Value):Option V:=(es.find? fun e=>uG k e.2.1).map (·.2.2)
def Z2 (k:Value) (v:V):List Ent->List Ent
 | []=>[]
 | e::r=>if uG k e.2.1=true then (e.1,e.2.1,v)::r else e::Z2 k v r
theorem vm (k:Value) (v:V):∀ (es:List Ent),(Z2 k v es).map (·.1)=es.map (·.1)/\(Z2 k v es).map (·.2.1)=es.map (·.2.1)
 | []=>⟨rfl,rfl⟩
 | e::r=>by
  have:=vm k v r;unfold Z2;split
  ·simp
  simp_all
theorem ZS {w:World} {I:Cells} {k:Value}:∀ {arr:List MapEntry} {es:List Ent} {i:Nat},arr.map (·.key)=es.map (·.2.1)->V.reps w I (es.map (·.2.2)) (arr.map (·.val)) ->
  (wu k arr i=none/\findM es k=none)∨(∃ j x v,wu k arr i=some (i+j,x)/\findM es k=some v/\V.rep w I v x /\
   ∃ a e b,arr=a++e::b/\a.length=j/\uG k e.key=true/\(∀ (y:Value) (u:V),V.rep w I u y->V.reps w I ((Z2 k u es).map (·.2.2)) ((a++{ e with val:=y }::b).map (·.val))))
 | [],[],i,_,_=>.inl ⟨rfl,rfl⟩
 | x::arr,e::es,i,hk,hr=>by
  simp only [z7,qKi] at hk;simp only [z7,V.reps] at hr;by_cases d:uG k x.key=true
  ·refine .inr ⟨0,x.val,e.2.2,by simp [wu,d],?_,hr.1,[],x,arr,rfl,rfl,d,fun y u hu=>?_⟩
   ·have:uG k e.2.1=true:=hk.1▸d;simp [findM,this]
   ·have:uG k e.2.1=true:=hk.1▸d;simp only [Z2,this,if_true,List.nil_append,z7,V.reps];simp_all
  ·have o:¬ uG k e.2.1=true:=hk.1▸d;rcases ZS (k:=k) (i:=i+1) hk.2 hr.2 with⟨n,q⟩ | ⟨j,z,v,n,q,A,a,p,b,rfl,C,D,F⟩
   ·left;refine⟨by simp [wu,d,n],?_⟩;simp only [findM,List.find?_cons,o];assumption
   ·right;refine⟨j+1,z,v,by simp [wu,d,n];omega,?_,A,x::a,p,b,rfl,by simp [C],D,fun y u hu=>?_⟩
    ·simp only [findM,List.find?_cons,o];assumption
    ·simp only [Z2,o,if_false,kA,List.cons_append,z7,V.reps];simp_all
 | [],_::_,_,h,_=>by simp at h
 | _::_,[],_,h,_=>by simp at h
def setX:Bx->Nat->B->Bx
 | [],_,_=>[]
 | (b,y)::r,x,z=>if x=b then (b,z)::r else (b,y)::setX r x z
theorem Wa:∀ (a:Bx) (x:Nat) (z:B),(setX a x z).map (·.1)=a.map (·.1)
 | [],_,_=>rfl
 | (b,y)::r,x,z=>by
  unfold setX;split
  ·rfl
  ·simp [Wa r x z]
theorem qeu:∀ {d:Bx} {x:Nat} {z:B} {p:Nat × B},(d.map (·.1)).Nodup->p ∈ setX d x z->p=(x,z)∨(p ∈ d/\p.1 ≠ x)
 | (b,y)::r,x,z,p,hn,a=>by
  unfold setX at a;simp only [z7,js] at hn;split at a
  ·rename_i e;subst e;rcases xb.1 a with rfl | a
   ·simp
   ·exact .inr ⟨z8 _ a,fun e=>hn.1 (e▸x9.2 ⟨p,a,rfl⟩)⟩
  ·rename_i e;rcases xb.1 a with rfl | a
   ·exact .inr ⟨x6,fun j=>e j.symm⟩
   ·exact(qeu hn.2 a).imp id fun h=>⟨z8 _ h.1,h.2⟩
 | [],_,_,_,_,a=>by simp [setX] at a
def wq:Bx->Nat->Option ((List Sh × Bool) × List Ent × Nat)
 | [],_=>none
 | (b,.m ks es cl)::r,x=>if x=b then some (ks,es,cl) else wq r x
 | (b,_)::r,x=>if x=b then none else wq r x
theorem kN:∀ {a:Bx} {x:Nat} {ks es cl},wq a x=some (ks,es,cl)->(x,.m ks es cl) ∈ a
 | (b,.m _ _ _)::r,x,ks,es,cl,h=>by
  unfold wq at h;split at h
  ·simp_all
  ·exact z8 _ (kN h)
 | (b,.c _)::r,x,ks,es,cl,h=>by
  unfold wq at h;split at h
  ·cases h
  ·exact z8 _ (kN h)
 | (b,.obj _)::r,x,ks,es,cl,h=>by
  unfold wq at h;split at h
  ·cases h
  ·exact z8 _ (kN h)
 | (b,.it _ _ _ _)::r,x,ks,es,cl,h=>by
  unfold wq at h;split at h
  ·cases h
  ·exact z8 _ (kN h)
def Zr:Bx->Nat->Option (Nat × Nat × List Nat × Nat)
 | [],_=>none
 | (b,.it mb since seen last)::r,x=>if x=b then some (mb,since,seen,last) else Zr r x
 | (b,_)::r,x=>if x=b then none else Zr r x
theorem vJ:∀ {a:Bx} {x:Nat} {mb since seen last},Zr a x=some (mb,since,seen,last)->(x,.it mb since seen last) ∈ a
 | (b,.it _ _ _ _)::r,x,mb,since,seen,last,h=>by
  unfold Zr at h;split at h
  ·simp_all
  ·exact z8 _ (vJ h)
 | (b,.c _)::r,x,mb,since,seen,last,h=>by
  unfold Zr at h;split at h
  ·cases h
  ·exact z8 _ (vJ h)
 | (b,.obj _)::r,x,mb,since,seen,last,h=>by
  unfold Zr at h;split at h
  ·cases h
  ·exact z8 _ (vJ h)
 | (b,.m _ _ _)::r,x,mb,since,seen,last,h=>by
  unfold Zr at h;split at h
  ·cases h
  ·exact z8 _ (vJ h)
def jY (w:World) (r:Nat) (o:Obj):World:={ w with heap:=w.heap.setIfInBounds r o }
variable {w:World}
theorem qpz {r:Nat} {o o':Obj} (h:w.heap[r]? = some o):(jY w r o').heap[r]? = some o':=by
 have a:r < w.heap.size:=(vx.1 h).1;simp [jY,a]
theorem vj (w:World) (r a:Nat) (o':Obj) (h:a ≠ r):(jY w r o').heap[a]? = w.heap[a]? := by
 simp [jY,qKh h]
theorem wy {r:Nat} {o:Obj} (o':Obj) (h:w.heap[r]? = some o) (hc:∀ c e f,o ≠ .cells c e f):(setObj r o').run P w=.ok () (jY w r o'):=by
 cases o <;> simp_all [setObj,Sem.run,jY]
theorem kS.setX {C S w I b} {o o':Obj} {z:B} (h:kS C S w I) (hb:b ∈ S.boxes.map (·.1)) (A:w.heap[b]? = some o) (L:∀ q,(∀ r,r ≠ b->q.heap[r]? = w.heap[r]?)->q.heap[b]? = some o'->zf w I q I->xR q I b z) :
  kS C (S.setBoxes (VL.setX S.boxes b z)) (jY w b o') I/\zf w I (jY w b o') I:=by
 have D:∀ o,¬ I b o:=by
  obtain⟨p,j,rfl⟩:=x9.1 hb;exact(h.heap.bx p j).out
 have G:∀ a o,I a o->(jY w b o').cell? ⟨a,o,none⟩=w.cell? ⟨a,o,none⟩:=fun a o d=>by
  have y:a ≠ b:=fun e=>D o (e▸d);have:=vj w b a o' y;unfold World.cell?;rw [this]
 have K:∀ x,o ≠ .deferred x:=by
  obtain⟨p,j,e⟩:=x9.1 hb;subst e;exact(h.heap.bx p j).notD A
 have k:zf w I (jY w b o') I:=.but b A K (fun a o d=>⟨d,G a o d⟩) (fun a u=>vj w b a o' u);have J:(S.boxes.map (·.1)).Nodup:=(w4.1 h.heap.nodup).1;have F:b ∈ qL S.boxes S.rows:=z6.2 (.inl hb);refine⟨⟨⟨fun p j=>?_,fun r n=>?_,?_,fun a o d=>by simpa [jY] using h.heap.inn a o d,h.heap.glob.mono k⟩,?_,?_,h.lo⟩,k⟩
 ·rcases qeu J j with rfl | ⟨j,y⟩
  ·exact L _ (fun r n=>vj w b r o' n) (qpz A) k
  ·exact(h.heap.bx p j).mono k (vj w b p.1 o' y) fun _ d=>d
 ·refine(h.heap.rw r n).mono (fun g H=>vj w b g o' fun e=>?_) fun _ _ _ d=>d;subst e;exact(w4.1 h.heap.nodup).2.2 g hb g (qMx.2 ⟨r,n,H⟩) rfl
 ·simp only [qL,St.setBoxes,Wa];exact h.heap.nodup
 ·simp only [qL,St.setBoxes,Wa];exact h.mine
 ·exact h.keeps.trans ⟨rfl,rfl,rfl,by simp [jY],fun a u=>vj w b a o' (fun e=>h.mine b F (e▸u)),k,fun _ _ _ d=>d,fun _=>w3 _⟩
theorem kS.newB {C S w I} (h:kS C S w I) (o:Obj) (x:B) (j:xR (w.alloc o) I w.heap.size x):kS C (S.addB w.heap.size x) (w.alloc o) I:=by
 have a:=h.alloc o;refine⟨⟨fun p e=>?_,a.heap.rw,?_,a.heap.inn,a.heap.glob⟩,fun b d=>?_,a.keeps,a.lo⟩
 ·rcases xb.1 e with rfl | e
  ·omega
  ·exact a.heap.bx p e
 ·simp only [qL,St.addB,z7,List.cons_append,js];exact⟨h.fresh,h.heap.nodup⟩
 ·simp only [qL,St.addB,z7,List.cons_append,xb] at d;rcases d with rfl | d
  ·exact h.notF
  ·exact h.mine b d
def KY:Value->V
 | .agg xs=>.agg (xs.toList.map .lit)
 | v=>.lit v
theorem XY {I:Cells} (v:Value):V.rep w I (KY v) v:=by
 cases v <;> simp only [KY,V.rep];exact⟨_,rfl,xg _⟩
def qm5 (P:Program) (t:TypeId):Option V:=((P.info? t).bind fun i=>i.zero).map KY
theorem Wb {P:Program} {z:V} (h:qm5 P t=some z) (w:World) (I:Cells):∃ v,(zeroValue t).run P w=.ok v w/\V.rep w I z v:=by
 unfold qm5 at h;cases a:P.info? t with
 | none=>simp_all
 | some i =>
  cases d:i.zero with
  | none=>simp_all
  | some v =>
   simp [a,d] at h;exact⟨v,by simp [zeroValue,typeInfo,a,d],h▸XY v⟩
def jG (P:Program) (t:TypeId):Option (TypeId × (List Sh × Bool) × V):=match P.underlying t with
 | some (.map kt et)=>match qrh P kt,qm5 P et with
  | some a,some z=>some (kt,a,z)
  | _,_=>none
 | _=>none
theorem uZ {a:TypeId} {z:V} (h:jG P t=some (a,ks,z)):∃ d,P.underlying t=some (.map a d)/\qrh P a=some ks/\qm5 P d=some z:=by
 unfold jG at h;split at h
 ·rename_i k e hu;split at h
  ·simp_all
  ·cases h
 ·cases h
def jM (P:Program) (S:St) (d:Option Nat) (t:TypeId) (r:Option V) (K:St->Prop):Prop :=
 match jG P t with
 | some (_,a,_)=>(r=none∨∃ k n,r=some (.lit (.int k n)))/\∀ b,b ∉ qL S.boxes S.rows->K ((S.addB b (.m a [] 0)).put d (.lit (.map (some b))))
 | none=>False
variable {o:Oper} {K:St->Prop}
theorem qbx {C S} {r:Option Operand} (u:o.op=.makeMap t r) (hd:zH C.N o=true) (h:jM C.P S o.dst t (r.map (VL.ev S.σ)) K):zQ C S o K:=by
 unfold jM at h;split at h
 ·rename_i H A z p;obtain⟨D,hu,F,G⟩:=uZ p
  ·obtain⟨e,j⟩:=h;refine zQ.of_value fun a w I d=>?_;have y:xR (w.alloc (.map #[] 0)) I w.heap.size (.m A [] 0):=⟨#[],yB w _,⟨rfl,rfl,by simp,by simp,by simp⟩,by simp [V.reps],fun o q=>by have:=d.2.heap.inn _ _ q;omega⟩;refine⟨.map (some w.heap.size),w.alloc (.map #[] 0),_,I,?_,⟨(d.1.mono (qV.new _ d.2.heap.inn).stays).put o.dst (qz hd) (v:=.lit (.map (some w.heap.size))) (by rfl),(d.2.newB _ _ y).put _ _⟩,j _ d.2.fresh⟩;simp only [execOp,u];cases r with
   | none=>rfl
   | some x =>
    simp only [Option.map_some,false_or,qAo,simprocAttr] at e;obtain⟨k,n,e⟩:=e;have rx:=d.ev x;rw [e] at rx;simp only [V.rep] at rx;simp [Instr.makeMap,rx,run_underlying hu,asInt,asIntOf]
 simp_all
def Zo:V->Option Value
 | .lit v=>some v
 | .agg vs=>(vals vs).map fun l=>.agg l.toArray
 | _=>none
theorem j5 {I:Cells} {v:V} {k x:Value} (h:Zo v=some k) (a:V.rep w I v x):x=k:=by
 cases v <;> simp only [Zo,simprocAttr] at h
 case lit y=>simp only [V.rep] at a;simp_all
 case agg vs =>
  simp only [qMp] at h;obtain⟨l,d,rfl⟩:=h;simp only [V.rep] at a;obtain⟨e,rfl,a⟩:=a;rw [<-jW d a]
inductive xp {α:Sort _} (a:α):Type | mk
def vD (o:Option V) (A:V->Prop) (B:Prop) (_:xp A) (_:xp B):Prop:=match o with | some v=>A v | none=>B
def W5 (S:St) (ks:List Sh × Bool) (z:V) (d:Value) (x:V) (ok:Bool) (K:V->Prop):Prop :=
 match x with
 | .lit (.map none)=>K (if ok=true then .tup [z,.lit (.bool false)] else z)
 | .lit (.map (some b))=>match wq S.boxes b with
  | some (a,es,_)=>a=ks/\vD (findM es d) (fun v=>K (if ok=true then .tup [v,.lit (.bool true)] else v)) (K (if ok=true then .tup [z,.lit (.bool false)] else z)) .mk .mk
  | none=>False
 | _=>False
def Xj (P:Program) (S:St) (t:TypeId) (x k:V) (ok:Bool) (K:V->Prop):Prop :=
 match jG P t with
 | some (_,a,z)=>match Zo k with
  | some d=>wd a d=true/\W5 S a z d x ok K
  | none=>False
 | none=>False
theorem MapAt.all {I:Cells} {b:Nat} {es:List Ent} {cl:Nat} (h:xR w I b (.m ks es cl)):∃ arr,w.heap[b]? = some (.map arr cl)/\arr.toList.map (·.born)=es.map (·.1)/\arr.toList.map (·.key)=es.map (·.2.1)/\(∀ e ∈ arr.toList,wd ks e.key=true) /\
  (∀ e ∈ es,wd ks e.2.1=true)/\(es.map (·.1)).Pairwise (· < ·)/\(∀ e ∈ es,e.1 < cl)/\V.reps w I (es.map (·.2.2)) (arr.toList.map (·.val))/\∀ o,¬ I b o:=by
 obtain⟨arr,k,⟨n,a,d,p,q⟩,u,x⟩:=h;refine⟨arr,k,n,a,fun e y=>?_,d,p,q,u,x⟩;have:e.key ∈ es.map (·.2.1):=a▸x9.2 ⟨e,y,rfl⟩;obtain⟨j,z,A⟩:=x9.1 this;rw [<-A];exact d j z
theorem qkf {C:Ctx} {S:St} {x k:V} {ok:Bool} {K:V->Prop} (h:Xj C.P S t x k ok K) :
  ∃ v,K v/\∀ w I A e,kS C S w I->V.rep w I x A->V.rep w I k e->∃ y,(Instr.lookup t A e ok).run C.P w=.ok y w/\V.rep w I v y:=by
 unfold Xj at h;split at h
 ·rename_i W ks z hT;obtain⟨et,hu,G,U⟩:=uZ hT;split at h
  ·rename_i X O;obtain⟨F,h⟩:=h;unfold W5 at h;obtain⟨Y,ab,aa⟩:=Qs G F;have Q:∀ (v:V) (b:Bool) w I y,V.rep w I v y->V.rep w I (if ok=true then .tup [v,.lit (.bool b)] else v) (if ok=true then .tuple #[y,.bool b] else y):=fun v b w I y q=>by
    cases ok
    ·assumption
    ·simp only [if_true,V.rep];exact⟨_,rfl,by simp only [V.reps,V.rep];exact⟨q,trivial,trivial⟩⟩
   have N:∀ w R,(Instr.checkKey R 10000 W X).run C.P w=.ok () w:=fun w R=>by
    rw [Y];exact u9 12 W ks.1 ab 10000 (by omega) _ w aa
   split at h
   ·refine⟨_,h,fun w I A e D d p=>?_⟩;obtain rfl:=j5 O p;simp only [V.rep] at d;subst d;obtain⟨y,q,P⟩:=Wb U w I;refine⟨_,?_,Q z false w I y P⟩;have n:=jw G F w [] (by simp);simp only [Instr.lookup,Sem.run_bind,run_underlying hu,Result.andThen_ok,Sem.run_pure,N,n,wu,q]
    all_goals (cases ok <;> rfl)
   ·rename_i b;split at h
    ·rename_i ac es cl T;obtain⟨rfl,h⟩:=h;cases o:findM es X with
     | none =>
      rw [o] at h;refine⟨_,h,fun w I A e D d p=>?_⟩;obtain rfl:=j5 O p;simp only [V.rep] at d;subst d;obtain⟨arr,H,Z,J,L,g5,g6,g7,M,g9⟩:=MapAt.all (D.heap.bx _ (kN T));obtain⟨y,q,P⟩:=Wb U w I;refine⟨_,?_,Q z false w I y P⟩;have n:=jw G F w arr.toList L;rcases ZS (i:=0) J M (k:=e) with⟨u,a⟩ | ⟨j,x,v,u,a,_⟩
      ·simp only [Instr.lookup,Sem.run_bind,run_underlying hu,Result.andThen_ok,Sem.run_pure,MapKept.run_getObj_map H,N,n,u,q]
       all_goals (cases ok <;> rfl)
      ·rw [o] at a;cases a
     | some v =>
      rw [o] at h;refine⟨_,h,fun w I A e D d p=>?_⟩;obtain rfl:=j5 O p;simp only [V.rep] at d;subst d;obtain⟨arr,H,Z,J,L,g5,g6,g7,M,g9⟩:=MapAt.all (D.heap.bx _ (kN T));have n:=jw G F w arr.toList L;rcases ZS (i:=0) J M (k:=e) with⟨u,a⟩ | ⟨j,x,v',u,a,q3,_⟩
      ·rw [o] at a;cases a
      ·rw [o] at a;cases a;refine⟨_,?_,Q v true w I x q3⟩;simp only [Instr.lookup,Sem.run_bind,run_underlying hu,Result.andThen_ok,Sem.run_pure,MapKept.run_getObj_map H,N,n,u]
       all_goals (cases ok <;> rfl)
    ·exact h.elim
   ·exact h.elim
  simp_all
 simp_all
variable {x:Operand}
theorem qej {C S} {k:Operand} {ok:Bool} (j:o.op=.lookup t x k ok) (hd:zH C.N o=true) (h:Xj C.P S t (VL.ev S.σ x) (VL.ev S.σ k) ok fun v=>K (S.put o.dst v)):zQ C S o K:=by
 obtain⟨v,e,p⟩:=qkf (C:=C) h;refine zQ.of_value fun a w I d=>?_;obtain⟨y,q,n⟩:=p w I _ _ d.2 (d.ev x) (d.ev k);exact⟨y,w,_,I,by simp only [execOp,j,Sem.run_bind,q,Result.andThen_ok,Sem.run_pure],⟨d.1.put o.dst (qz hd) n,d.2.put _ _⟩,e⟩
def qiq (S:St) (d:Option Nat) (ks:List Sh × Bool) (e:Value) (x v:V) (K:St->Prop):Prop :=
 match x with
 | .lit (.map (some b))=>match wq S.boxes b with
  | some (h,es,a)=>h=ks/\vD (findM es e) (fun _=>K ((S.setBoxes (VL.setX S.boxes b (.m ks (Z2 e v es) a))).put d .any)) (K ((S.setBoxes (VL.setX S.boxes b (.m ks (es++[(a,e,v)]) (a+1)))).put d .any)) .mk .mk
  | none=>False
 | _=>False
def J5 (P:Program) (S:St) (d:Option Nat) (t:TypeId) (x k v:V) (K:St->Prop):Prop :=
 match jG P t with
 | some (_,a,_)=>match Zo k with
  | some e=>wd a e=true/\qiq S d a e x v K
  | none=>False
 | none=>False
theorem qLk {α:Type} (f:α->α) (e:α) (b:List α):∀ a:List α,(a++e::b).modify a.length f=a++f e::b
 | []=>rfl
 | x::a=>by
  have:=qLk f e b a;simp_all
theorem qq1 {α:Type} (f:α->α) (a:List α) (e:α) (b:List α):((a++e::b).toArray.modify a.length f).toList=a++f e::b:=by
 rw [qQk];exact qLk f e b a
theorem Zd {C S} {k v:Operand} (q:o.op=.mapUpdate t x k v∨o.op=.insert t x k v) (hd:zH C.N o=true) (h:J5 C.P S o.dst t (VL.ev S.σ x) (VL.ev S.σ k) (VL.ev S.σ v) K):zQ C S o K:=by
 unfold J5 at h;split at h
 ·rename_i kt ks z hT;obtain⟨et,hu,ae,J⟩:=uZ hT;split at h;rename_i n aj;obtain⟨G,h⟩:=h;unfold qiq at h;split at h
  ·rename_i b hx;split at h
   ·rename_i Z es y hm;obtain⟨rfl,h⟩:=h;obtain⟨ag,ak,ah⟩:=Qs ae G;have af:=kN hm;have hb:b ∈ S.boxes.map (·.1):=x9.2 ⟨_,af,rfl⟩;have ad:∀ w,(Instr.checkKey false 10000 kt n).run C.P w=.ok () w:=fun w=>by
     rw [ag];exact u9 12 kt Z.1 ak 10000 (by omega) _ w ah
    refine zQ.of_skip fun a w I u=>?_;have rx:=u.ev x;rw [hx] at rx;simp only [V.rep] at rx;have rk:=j5 aj (u.ev k);have rv:=u.ev v;obtain⟨arr,D,g2,N,g4,g5,g6,O,g8,g9⟩:=MapAt.all (u.2.heap.bx _ af);have hf:=jw ae G w arr.toList g4;rcases ZS (i:=0) N g8 (k:=n) with⟨q1,q2⟩ | ⟨j,z,v',q1,q2,q3,A,e,R,L,q5,q6,q7⟩
    ·rw [q2] at h;have J:∀ p,(∀ r,r ≠ b->p.heap[r]? = w.heap[r]?)->p.heap[b]? = some (.map (arr.push { key:=n,val:=a.eval v,born:=y }) (y+1))->zf w I p I->xR p I b (.m Z (es++[(y,n,VL.ev S.σ v)]) (y+1)):=fun p _ P H=>by
      refine⟨_,P,⟨by simp [g2],by simp [N],?_,?_,?_⟩,?_,g9⟩
      ·intro e d;rcases z6.1 d with d | d
       ·exact g5 e d
       ·simp only [kl] at d;subst d;omega
      ·rw [k8,qMl];refine⟨g6,by simp,fun a' ha b' ac=>?_⟩;simp only [z7,Jx,kl] at ac;obtain⟨e,d,rfl⟩:=x9.1 ha;subst ac;exact O e d
      ·intro e d;rcases z6.1 d with d | d
       ·exact qOf (O e d)
       ·simp only [kl] at d;subst d;simp
      ·simp only [Array.toList_push,k8,z7,Jx];exact qC (V.reps_mono H _ _ g8) (by simp only [V.reps,and_true];exact V.rep_mono H _ _ rv)
     obtain⟨W,U⟩:=u.2.setX hb D J;refine⟨_,_,I,?_,⟨(u.1.mono U).put o.dst (qz hd) (v:=.any) (by simp only [V.rep]),W.put _ _⟩,h⟩;rcases q with q | q <;> simp only [execOp,q,rx,rk,Instr.mapUpdate,Sem.run_bind,run_underlying hu,Result.andThen_ok,MapKept.run_getObj_map D,ad,hf,q1,wy _ D (fun _ _ _ h=>by cases h),Sem.run_pure]
    ·rw [q2] at h;have aa:e.key=n:=((JK G (g4 e (by rw [L];simp))).1 q6).symm;have ab:arr=(A++e::R).toArray:=by rw [<-L]
     have J:∀ p,(∀ r,r ≠ b->p.heap[r]? = w.heap[r]?)->p.heap[b]? = some (.map (arr.modify j fun e=>{ e with key:=n,val:=a.eval v }) y)->zf w I p I->xR p I b (.m Z (Z2 n (VL.ev S.σ v) es) y):=fun p _ P H=>by
      have Y:(arr.modify j fun e=>{ e with key:=n,val:=a.eval v }).toList=A++{ e with val:=a.eval v }::R:=by
       rw [ab,<-q5,qq1];congr 2;rw [<-aa]
      refine⟨_,P,⟨?_,?_,?_,?_,?_⟩,?_,g9⟩
      ·rw [Y,(vm _ _ _).1,<-g2,L];simp
      ·rw [Y,(vm _ _ _).2,<-N,L];simp
      ·intro F X;have:F.2.1 ∈ (Z2 n (VL.ev S.σ v) es).map (·.2.1):=x9.2 ⟨F,X,rfl⟩;rw [(vm _ _ _).2] at this;obtain⟨M,Q,T⟩:=x9.1 this;rw [<-T];exact g5 M Q
      ·rw [(vm _ _ _).1];omega
      ·intro F X;have:F.1 ∈ (Z2 n (VL.ev S.σ v) es).map (·.1):=x9.2 ⟨F,X,rfl⟩;rw [(vm _ _ _).1] at this;obtain⟨M,Q,T⟩:=x9.1 this;rw [<-T];exact O M Q
      ·rw [Y];exact V.reps_mono H _ _ (q7 _ _ rv)
     obtain⟨W,U⟩:=u.2.setX hb D J;refine⟨_,_,I,?_,⟨(u.1.mono U).put o.dst (qz hd) (v:=.any) (by simp only [V.rep]),W.put _ _⟩,h⟩;have ai:((arr[j]?).map (·.key)).getD n=n:=by
      rw [ab,<-q5];simp [aa]
     rcases q with q | q <;> simp only [execOp,q,rx,rk,Instr.mapUpdate,Sem.run_bind,run_underlying hu,Result.andThen_ok,MapKept.run_getObj_map D,ad,hf,q1,qJ0,ai,UY G,wy _ D (fun _ _ _ h=>by cases h),Sem.run_pure]
   simp_all
  ·simp_all
  simp_all
 simp_all
def Qm (P:Program) (S:St) (d:Option Nat) (t:TypeId) (x:V) (K:St->Prop):Prop :=
 match P.underlying t,x with
 | some (.map _ _),.lit (.map (some b))=>match wq S.boxes b with
  | some (_,_,e)=>∀ a,a ∉ qL S.boxes S.rows->K ((S.addB a (.it b e [] e)).put d (.lit (.pointer (some ⟨a,0,none⟩))))
  | none=>False
 | _,_=>False
theorem qi0 {C S} (u:o.op=.range t x) (hd:zH C.N o=true) (h:Qm C.P S o.dst t (VL.ev S.σ x) K):zQ C S o K:=by
 unfold Qm at h;split at h
 ·rename_i z j b hu y;split at h
  ·rename_i A es e q;refine zQ.of_value fun a w I d=>?_;have rx:=d.ev x;rw [y] at rx;simp only [V.rep] at rx;obtain⟨arr,k,_⟩:=MapAt.all (d.2.heap.bx _ (kN q));have n:xR (w.alloc (.mapIter (some b) e #[] e)) I w.heap.size (.it b e [] e):=⟨yB w _,fun o p=>by have:=d.2.heap.inn _ _ p;omega⟩;refine⟨.pointer (some ⟨w.heap.size,0,none⟩),_,_,I,?_,⟨(d.1.mono (qV.new _ d.2.heap.inn).stays).put o.dst (qz hd) (v:=.lit (.pointer (some ⟨w.heap.size,0,none⟩))) (by rfl),(d.2.newB _ _ n).put _ _⟩,h _ d.2.fresh⟩;simp only [execOp,u,rx,Sem.run_bind,run_range_map w t z j b arr e hu k,Result.andThen_ok,Sem.run_pure]
  simp_all
 simp_all
def Ks (es:List Ent) (seen:List Nat):List Ent:=es.filter fun e=>!seen.contains e.1
def Xi (S:St) (d:Option Nat) (it:V) (K:St->Prop):Prop :=
 match it with
 | .lit (.pointer (some ⟨ib,0,none⟩))=>match Zr S.boxes ib with
  | some (h,since,seen,last)=>match wq S.boxes h with
   | some (_,es,a)=>(since=a/\last=a)/\(Ks es seen=[]->K (S.put d (.tup [.lit (.bool false)]))) /\
     ∀ e,e ∈ Ks es seen->es.find? (fun x=>x.1 == e.1)=some e->K ((S.setBoxes (VL.setX S.boxes ib (.it h since (seen++[e.1]) a))).put d (.tup [.lit (.bool true),KY e.2.1,e.2.2]))
   | none=>False
  | none=>False
 | _=>False
theorem qgk:∀ {es:List Ent} {e:Ent},(es.map (·.1)).Pairwise (· < ·)->e ∈ es->es.find? (fun x=>x.1 == e.1)=some e
 | x::es,e,hp,a=>by
  simp only [z7,vt] at hp;rcases xb.1 a with rfl | a
  ·simp
  ·have:=hp.1 e.1 (x9.2 ⟨e,a,rfl⟩);rw [qQ5];have d:(x.1 == e.1)=false:=by simp;omega
   rw [d];exact qgk hp.2 a
theorem qvo {ty:TypeId} {d k since last:Nat} {seen:Array Nat} {arr:Array MapEntry} {cl:Nat} (o:w.heap[d]? = some (.mapIter (some k) since seen last)) (hb:w.heap[k]? = some (.map arr cl)) (y:∀ x ∈ arr.toList,x.born < since) (H:since<=last) :
  (leftOf arr seen=#[]/\(Instr.next (.pointer (some ⟨d,0,none⟩)) false ty).run P w=.ok (.tuple #[.bool false]) w) ∨
  ∃ e ∈ (leftOf arr seen).toList,∃ a:World,(a=w∨a=w.drew)/\(Instr.next (.pointer (some ⟨d,0,none⟩)) false ty).run P w=.ok (.tuple #[.bool true,e.key,e.val]) (jY a d (.mapIter (some k) since (seen.push e.born) cl)):=by
 simp only [Instr.next,getObj,Sem.run_bind,Sem.run,o,hb,Result.andThen,next_test_false seen arr since last y H,kA,if_false];unfold leftOf;have u:∀ x ∈ (Array.filter (fun e=>!seen.contains e.born) arr).toList,x.born < since:=fun x z=>y x (by simp_all);generalize Array.filter (fun e=>!seen.contains e.born) arr=L at u ⊢;have A:L.filter (fun x=>decide (x.born < since))=L:=Array.filter_eq_self.2 (fun x z=>by simp_all);have C:L.filter (fun x=>decide (x.born ≥ since))=#[]:=by
  rw [Array.filter_eq_empty_iff];intro x z;have:=u x (by simp_all);simp;omega
 simp only [A,C,Array.append_empty];by_cases n:L.size=0
 ·left;have:L=#[]:=Array.eq_empty_of_size_eq_zero n;subst this;refine⟨rfl,?_⟩;simp [choose,Sem.run,Question.forced]
 ·right;have G:L.isEmpty=false:=by simp [Array.isEmpty,n]
  simp only [G,kA,if_false,Array.empty_append,Array.size_map];have F:∃ (j:Nat) (a:World),j < L.size/\(a=w∨a=w.drew)/\(choose (Question.mapNext L.size)).run P w=.ok j a:=by
   by_cases q:L.size<=1
   ·exact⟨0,w,by omega,.inl rfl,by simp [choose,Sem.run,Question.forced,q]⟩
   ·exact⟨_,w.drew,qPf _ (by omega),.inr rfl,by
     simp only [choose,Sem.run,Question.forced,decide_eq_true_eq,q,if_false,Question.cut];rfl⟩
  obtain⟨j,a,J,p,K⟩:=F;refine⟨L[j],by simp,a,p,?_⟩;have D:a.heap[d]? = some (.mapIter (some k) since seen last):=by rcases p with rfl | rfl <;> exact o
  have M:=fun I=>wy (P:=P) I D (fun _ _ _ h=>by cases h);simp_all
theorem qpe {C S} (Y:o.op=.next x false) (hd:zH C.N o=true) (h:Xi S o.dst (VL.ev S.σ x) K):zQ C S o K:=by
 unfold Xi at h;split at h
 ·rename_i G hx;split at h
  ·rename_i u since seen last W;split at h
   ·rename_i ks es cl X;obtain⟨⟨rfl,rfl⟩,R,q⟩:=h;refine zQ.of_value fun a w I k=>?_;have rx:=k.ev x;rw [hx] at rx;simp only [V.rep] at rx;obtain⟨arr,L,p,M,g4,g5,N,O,Q,g9⟩:=MapAt.all (k.2.heap.bx _ (kN X));have A:=k.2.heap.bx _ (vJ W);have D:w.heap[G]? = some (.mapIter (some u) last seen.toArray last):=A.1;have ah:arr.toList.length=es.length:=by have:=congrArg List.length p;simpa using this
    have side:∀ e ∈ arr.toList,∃ d ∈ es,d.1=e.born/\d.2.1=e.key/\V.rep w I d.2.2 e.val:=by
     clear R q X L g4 g5 N O g9 A D ah;generalize arr.toList=l at p M Q ⊢
     induction l generalizing es with
     | nil=>simp
     | cons y l ih =>
      cases es with
      | nil=>simp at p
      | cons z es =>
       simp only [z7,qKi] at p M;simp only [z7,V.reps] at Q;simp_all
    have aa:∀ d ∈ es,∃ e ∈ arr.toList,e.born=d.1:=fun d n=>by
     have:d.1 ∈ arr.toList.map (·.born):=p▸x9.2 ⟨d,n,rfl⟩;obtain⟨e,j,U⟩:=x9.1 this;exact⟨e,j,U⟩
    rcases qvo (P:=C.P) (ty:=o.type) D L (fun e j=>by obtain⟨d,q,h2,_⟩:=side e j;rw [<-h2];exact O d q) (w3 _) with⟨q1,H⟩ | ⟨e,j,J,F,H⟩
    ·refine⟨.tuple #[.bool false],w,_,I,?_,⟨k.1.put o.dst (qz hd) (v:=.tup [.lit (.bool false)]) ?_,k.2.put _ _⟩,R ?_⟩
     ·simp only [execOp,Y,rx,Sem.run_bind,H,Result.andThen_ok,Sem.run_pure]
     ·simp only [V.rep];exact⟨_,rfl,by simp [V.reps,V.rep]⟩
     ·unfold Ks;rw [List.filter_eq_nil_iff];intro d n hc;obtain⟨e,j,U⟩:=aa d n;have:e ∈ (leftOf arr seen.toArray).toList:=by
       unfold leftOf;simp only [qR5,qA6];exact⟨j,by simp_all⟩
      simp_all
    ·have ae:e ∈ arr.toList/\seen.contains e.born=false:=by
      unfold leftOf at j;simp only [qR5,qA6] at j;exact⟨j.1,by simp_all⟩
     obtain⟨d,n,aj,ac,ad⟩:=side e ae.1;have ag:d ∈ Ks es seen:=by
      unfold Ks;rw [qA6];exact⟨n,by simp_all⟩
     have Z:Γ C S a J I:=by
      rcases F with rfl | rfl
      ·omega
      ·exact⟨k.1.mono (qV.drew (fun _=>True) w I).stays,k.2.quiet (fun _=>True) (fun _ _=>trivial) (qV.drew _ w I) k.2.heap.inn⟩
     have ai:zf w I J I:=by
      rcases F with rfl | rfl
      ·exact zf.refl _ _
      ·exact(qV.drew (fun _=>True) w I).stays
     have ab:J.heap[G]? = some (.mapIter (some u) last seen.toArray last):=by rcases F with rfl | rfl <;> exact D
     have af:G ∈ S.boxes.map (·.1):=x9.2 ⟨_,vJ W,rfl⟩;obtain⟨hW,T⟩:=Z.2.setX (o':=.mapIter (some u) last (seen.toArray.push e.born) last) (z:=.it u last (seen++[d.1]) last) af ab (fun w' _ q _=>⟨by simp_all,A.2⟩);refine⟨.tuple #[.bool true,e.key,e.val],_,_,I,?_,⟨(Z.1.mono T).put o.dst (qz hd) (v:=.tup [.lit (.bool true),KY d.2.1,d.2.2]) ?_,hW.put _ _⟩,q d ag (qgk N n)⟩
     ·simp only [execOp,Y,rx,Sem.run_bind,H,Result.andThen_ok,Sem.run_pure]
     ·simp only [V.rep];refine⟨_,rfl,?_⟩;simp only [V.reps,V.rep];exact⟨trivial,ac▸XY _,V.rep_mono T _ _ (V.rep_mono ai _ _ ad),trivial⟩
   simp_all
  simp_all
 simp_all
def vN (S:St) (it:V) (K:V->Prop):Prop :=
 match it with
 | .lit (.pointer (some ⟨ib,0,none⟩))=>match Zr S.boxes ib with
  | some (d,_,seen,last)=>match seen.getLast?, wq S.boxes d with
   | some h,some (_,es,a)=>match es.find? (fun x=>x.1 == h) with
    | some e=>a=last/\K (.tup [KY e.2.1,e.2.2])
    | none=>False
   | _,_=>False
  | none=>False
 | _=>False
theorem qar {w:World} {I:Cells} {a:Nat}:∀ {l:List MapEntry} {es:List Ent} {e:Ent},l.map (·.born)=es.map (·.1)->l.map (·.key)=es.map (·.2.1)->V.reps w I (es.map (·.2.2)) (l.map (·.val))->es.find? (fun x=>x.1 == a)=some e ->
  ∃ y,l.find? (fun x=>x.born == a)=some y/\e.2.1=y.key/\V.rep w I e.2.2 y.val
 | [],[],_,_,_,_,h=>by simp at h
 | y::l,z::es,e,h1,h2,h3,h=>by
  simp only [z7,qKi] at h1 h2;simp only [z7,V.reps] at h3;rw [qQ5] at h ⊢;rw [<-h1.1] at h;split at h
  ·simp_all
  ·exact qar h1.2 h2.2 h3.2 h
 | [],_::_,_,h,_,_,_=>by simp at h
 | _::_,[],_,h,_,_,_=>by simp at h
theorem qi2 {C S} (L:o.op=.entry x) (hd:zH C.N o=true) (h:vN S (VL.ev S.σ x) fun v=>K (S.put o.dst v)):zQ C S o K:=by
 unfold vN at h;split at h
 ·rename_i N M;split at h
  ·rename_i O since seen last G;split at h
   ·rename_i j ks es k H J;split at h
    ·rename_i e F;obtain⟨rfl,h⟩:=h;refine zQ.of_value fun a w I d=>?_;have rx:=d.ev x;rw [M] at rx;simp only [V.rep] at rx;obtain⟨arr,n,p,q,U,W,X,Y,u,Z⟩:=MapAt.all (d.2.heap.bx _ (kN J));have z:=d.2.heap.bx _ (vJ G);have A:w.heap[N]? = some (.mapIter (some O) since seen.toArray k):=z.1;obtain⟨y,P,R,T⟩:=qar p q u F;have D:seen.toArray.back? = some j:=by rw [<-H];simp [Array.back?, List.getLast?_eq_getElem?]
     have Q:arr.find? (fun x=>x.born == j)=some y:=by rw [<-Array.find?_toList];exact P
     refine⟨.tuple #[y.key,y.val],w,_,I,?_,⟨d.1.put o.dst (qz hd) (v:=.tup [KY e.2.1,e.2.2]) ?_,d.2.put _ _⟩,h⟩
     ·simp only [execOp,L,rx,Sem.run_bind,Sem.run_pure];simp only [Instr.entry,getObj,Sem.run_bind,Sem.run,A,n,Result.andThen,D,bne_self_eq_false,kA,if_false,Q];rfl
     ·simp only [V.rep];exact⟨_,rfl,by simp only [V.reps];exact⟨R▸XY _,T,trivial⟩⟩
    simp_all
   simp_all
  simp_all
 simp_all
end
section
variable {P:Program}
def QW (es:List Ent) (k:Value):Option Ent:=es.find? fun e=>uG k e.2.1
def jF (n:Nat) (v:V) (es:List Ent):List Ent:=es.map fun e=>if e.1=n then (e.1,e.2.1,v) else e
theorem qpy (n:Nat) (v:V) (es:List Ent):(jF n v es).map (·.1)=es.map (·.1)/\(jF n v es).map (·.2.1)=es.map (·.2.1):=by
 unfold jF;constructor
 ·rw [qN5];refine qLu fun e _=>?_;simp only [Function.comp];split <;> rfl
 ·rw [qN5];refine qLu fun e _=>?_;simp only [Function.comp];split <;> rfl
theorem Y3 {w:World} {I:Cells} {k:Value}:∀ {arr:List MapEntry} {es:List Ent} {i:Nat},arr.map (·.born)=es.map (·.1)->arr.map (·.key)=es.map (·.2.1)->V.reps w I (es.map (·.2.2)) (arr.map (·.val)) ->
  (wu k arr i=none/\QW es k=none)∨(∃ j x d,wu k arr i=some (i+j,x.val)/\QW es k=some d/\arr[j]? = some x/\x.born=d.1/\x ∈ arr/\uG k x.key=true/\V.rep w I d.2.2 x.val)
 | [],[],i,_,_,_=>.inl ⟨rfl,rfl⟩
 | x::arr,e::es,i,hb,hk,hr=>by
  simp only [z7,qKi] at hk hb;simp only [z7,V.reps] at hr;by_cases a:uG k x.key=true
  ·have:uG k e.2.1=true:=hk.1▸a;exact .inr ⟨0,x,e,by simp [wu,a],by simp [QW,this],rfl,hb.1,x6,a,hr.1⟩
  ·have o:¬ uG k e.2.1=true:=hk.1▸a;rcases Y3 (k:=k) (i:=i+1) hb.2 hk.2 hr.2 with⟨n,p⟩ | ⟨j,A,d,n,p,C,q,u,y,z⟩
   ·left;refine⟨by simp [wu,a,n],?_⟩;simp only [QW,List.find?_cons,o];assumption
   ·right;refine⟨j+1,A,d,by simp [wu,a,n];omega,?_,by simp_all,q,z8 _ u,y,z⟩;simp only [QW,List.find?_cons,o];assumption
 | [],_::_,_,h,_,_=>by simp at h
 | _::_,[],_,h,_,_=>by simp at h
def YF (o:Option Ent) (A:Ent->Prop) (B:Prop) (_:xp A) (_:xp B):Prop:=match o with | some e=>A e | none=>B
def YL (S:St) (d:Option Nat) (ks:List Sh × Bool) (z:V) (h:Value) (x:V) (K:St->Prop):Prop :=
 match x with
 | .lit (.map (some b))=>match wq S.boxes b with
  | some (j,es,a)=>j=ks/\YF (QW es h) (fun e=>K (S.put d (.tup [e.2.2,.lit (.int .i64 e.1)]))) (K ((S.setBoxes (VL.setX S.boxes b (.m ks (es++[(a,h,z)]) (a+1)))).put d (.tup [z,.lit (.int .i64 a)]))) .mk .mk
  | none=>False
 | _=>False
def Kq (P:Program) (S:St) (d:Option Nat) (t:TypeId) (x k:V) (K:St->Prop):Prop :=
 match jG P t with
 | some (_,a,z)=>match Zo k with
  | some e=>wd a e=true/\YL S d a z e x K
  | none=>False
 | none=>False
theorem qq0 {α:Type} {a:Array α} {j:Nat} {x:α} {f:α->α} (h:a.toList[j]? = some x) (d:f x=x):a.modify j f=a:=by
 apply qMc;rw [qQk];refine qO8 fun i=>?_;rw [List.getElem?_modify];by_cases e:j=i
 ·simp_all
 simp_all
theorem V2 {C S} {o:Oper} {t:TypeId} {x k:Operand} {K:St->Prop} (ho:o.op=.mapEntry t x k) (hd:zH C.N o=true) (h:Kq C.P S o.dst t (VL.ev S.σ x) (VL.ev S.σ k) K):zQ C S o K:=by
 unfold Kq at h;split at h
 ·rename_i kt ks z hT;obtain⟨et,hu,ad,hz⟩:=uZ hT;split at h;rename_i G ah;obtain⟨J,h⟩:=h;unfold YL at h;split at h
  ·rename_i b hx;split at h
   ·rename_i N es q F;obtain⟨rfl,h⟩:=h;obtain⟨af,al,ag⟩:=Qs ad J;have W:=kN F;have U:b ∈ S.boxes.map (·.1):=x9.2 ⟨_,W,rfl⟩;have ac:∀ w,(Instr.checkKey false 10000 kt G).run C.P w=.ok () w:=fun w=>by
     rw [af];exact u9 12 kt N.1 al 10000 (by omega) _ w ag
    refine zQ.of_value fun a w I u=>?_;have rx:=u.ev x;rw [hx] at rx;simp only [V.rep] at rx;have rk:=j5 ah (u.ev k);obtain⟨arr,A,O,P,g4,g5,g6,Q,R,g9⟩:=MapAt.all (u.2.heap.bx _ W);have hf:=jw ad J w arr.toList g4;rcases Y3 (i:=0) O P R (k:=G) with⟨X,Y⟩ | ⟨j,y,Z,X,Y,q3,q4,q5,q6,q7⟩
    ·rw [Y] at h;obtain⟨zv,am,ae⟩:=Wb hz w I;have M:∀ n,(∀ r,r ≠ b->n.heap[r]? = w.heap[r]?)->n.heap[b]? = some (.map (arr.push { key:=G,val:=zv,born:=q }) (q+1))->zf w I n I->xR n I b (.m N (es++[(q,G,z)]) (q+1)):=fun n _ T L=>by
      refine⟨_,T,⟨by simp [O],by simp [P],?_,?_,?_⟩,?_,g9⟩
      ·intro e d;rcases z6.1 d with d | d
       ·exact g5 e d
       ·simp only [kl] at d;subst d;omega
      ·rw [k8,qMl];refine⟨g6,by simp,fun a' ha b' ab=>?_⟩;simp only [z7,Jx,kl] at ab;obtain⟨e,d,rfl⟩:=x9.1 ha;subst ab;exact Q e d
      ·intro e d;rcases z6.1 d with d | d
       ·exact qOf (Q e d)
       ·simp only [kl] at d;subst d;simp
      ·simp only [Array.toList_push,k8,z7,Jx];exact qC (V.reps_mono L _ _ R) (by simp only [V.reps,and_true];exact V.rep_mono L _ _ ae)
     obtain⟨H,D⟩:=u.2.setX U A M;refine⟨.tuple #[zv,goInt q],_,_,I,?_,⟨(u.1.mono D).put o.dst (qz hd) (v:=.tup [z,.lit (.int .i64 q)]) ?_,H.put _ _⟩,h⟩
     ·simp only [execOp,ho,rx,rk,Instr.mapEntry,Sem.run_bind,run_underlying hu,Result.andThen_ok,MapKept.run_getObj_map A,ac,hf,X,am,wy _ A (fun _ _ _ h=>by cases h),Sem.run_pure]
     ·simp only [V.rep];exact⟨_,rfl,by simp only [V.reps,V.rep];exact⟨V.rep_mono D _ _ ae,rfl,trivial⟩⟩
    ·rw [Y] at h;have aa:y.key=G:=((JK J (g4 y q5)).1 q6).symm;have aj:arr[j]? = some y:=by rw [<-q3];simp
     have ai:(arr.modify j fun e=>{ e with key:=G })=arr:=qq0 q3 (by rw [<-aa]);have M:∀ n,(∀ r,r ≠ b->n.heap[r]? = w.heap[r]?)->n.heap[b]? = some (.map arr q)->zf w I n I->xR n I b (.m N es q):=fun n _ T L =>
      ⟨_,T,⟨O,P,g5,g6,Q⟩,V.reps_mono L _ _ R,g9⟩
     obtain⟨H,D⟩:=u.2.setX U A M;have ak:VL.setX S.boxes b (.m N es q)=S.boxes:=by
      clear h M H;have:=(w4.1 u.2.heap.nodup).1;revert F;clear D W U;generalize S.boxes=bs;intro F
      induction bs with
      | nil=>rfl
      | cons p r ih =>
       obtain⟨c,z⟩:=p;unfold VL.setX;by_cases e:b=c
       ·subst e;cases z <;> simp [wq] at F;obtain⟨rfl,rfl,rfl⟩:=F;simp
       ·rw [if_neg e,ih];cases z <;> simpa [wq,e] using F
     rw [ak] at H;refine⟨.tuple #[y.val,goInt y.born],_,_,I,?_,⟨(u.1.mono D).put o.dst (qz hd) (v:=.tup [Z.2.2,.lit (.int .i64 Z.1)]) ?_,H.put _ _⟩,h⟩
     ·simp only [execOp,ho,rx,rk,Instr.mapEntry,Sem.run_bind,run_underlying hu,Result.andThen_ok,MapKept.run_getObj_map A,ac,hf,X,qJ0,aj,Option.map_some,Option.getD_some,aa,UY J,ai,wy _ A (fun _ _ _ h=>by cases h),Sem.run_pure]
     ·simp only [V.rep];exact⟨_,rfl,by simp only [V.reps,V.rep];exact⟨V.rep_mono D _ _ q7,by rw [q4];rfl,trivial⟩⟩
   simp_all
  ·simp_all
  simp_all
 simp_all
def Uo (S:St) (d:Option Nat) (x s v:V) (K:St->Prop):Prop :=
 match x,s with
 | .lit (.map (some b)),.lit (.int .i64 n)=>match wq S.boxes b with
  | some (h,es,a)=>(∃ e ∈ es,(e.1:Int)=n)/\K ((S.setBoxes (VL.setX S.boxes b (.m h (jF n.toNat v es) a))).put d .any)
  | none=>False
 | _,_=>False
theorem qgu {w:World} {I:Cells} {n:Nat} {u:V} {y:Value} (hu:V.rep w I u y):∀ {arr:List MapEntry} {es:List Ent},arr.map (·.born)=es.map (·.1)->arr.map (·.key)=es.map (·.2.1)->V.reps w I (es.map (·.2.2)) (arr.map (·.val))->(es.map (·.1)).Pairwise (· < ·)->(∃ e ∈ es,e.1=n) ->
  ∃ i,arr.findIdx? (fun e=>(e.born:Int) == (n:Int))=some i/\(arr.modify i fun e=>{ e with val:=y }).map (·.born)=es.map (·.1)/\(arr.modify i fun e=>{ e with val:=y }).map (·.key)=es.map (·.2.1)/\V.reps w I ((jF n u es).map (·.2.2)) ((arr.modify i fun e=>{ e with val:=y }).map (·.val))
 | [],[],_,_,_,_,h=>by simp_all
 | x::arr,e::es,hb,hk,hr,hp,h=>by
  simp only [z7,qKi] at hk hb;simp only [z7,V.reps] at hr;simp only [z7,vt] at hp;by_cases j:e.1=n
  ·refine⟨0,?_,?_,?_,?_⟩
   ·have:((x.born:Int) == (n:Int))=true:=by rw [hb.1,j];simp
    simp [List.findIdx?_cons,this]
   ·simp [hb]
   ·simp [hk]
   ·have q:jF n u es=es:=by
     unfold jF
     conv=>rhs;rw [<-List.map_id es]
     refine qLu fun d a=>?_;have:=hp.1 d.1 (x9.2 ⟨d,a,rfl⟩);rw [if_neg (by omega)];rfl
    have:jF n u (e::es)=(e.1,e.2.1,u)::es:=by
     rw [show jF n u (e::es)=(if e.1=n then (e.1,e.2.1,u) else e)::jF n u es from rfl,if_pos j,q]
    rw [this];simp only [List.modify_zero_cons,z7,V.reps];simp_all
  ·have o:∃ e ∈ es,e.1=n:=by
    obtain⟨d,a,k⟩:=h;rcases xb.1 a with rfl | a
    ·omega
    ·exact⟨d,a,k⟩
   obtain⟨i,p,k,z,A⟩:=qgu hu hb.2 hk.2 hr.2 hp.2 o;refine⟨i+1,?_,?_,?_,?_⟩
   ·have:((x.born:Int) == (n:Int))=false:=by rw [hb.1];simp;omega
    simp [List.findIdx?_cons,this,p]
   ·simp_all
   ·simp_all
   ·rw [show jF n u (e::es)=(if e.1=n then (e.1,e.2.1,u) else e)::jF n u es from rfl,if_neg j];simp only [List.modify_succ_cons,z7,V.reps];simp_all
 | [],_::_,h,_,_,_,_=>by simp at h
 | _::_,[],h,_,_,_,_=>by simp at h
theorem Jk {C S} {o:Oper} {t:TypeId} {x s v:Operand} {K:St->Prop} (ho:o.op=.entryStore t x s v) (hd:zH C.N o=true) (h:Uo S o.dst (VL.ev S.σ x) (VL.ev S.σ s) (VL.ev S.σ v) K):zQ C S o K:=by
 unfold Uo at h;split at h
 ·rename_i b n hx hs;split at h
  ·rename_i ks es A Z;obtain⟨⟨H,Y,hn⟩,h⟩:=h;have G:=kN Z;have X:b ∈ S.boxes.map (·.1):=x9.2 ⟨_,G,rfl⟩;refine zQ.of_skip fun a w I d=>?_;have rx:=d.ev x;rw [hx] at rx;simp only [V.rep] at rx;have z:=d.ev s;rw [hs] at z;simp only [V.rep] at z;have rv:=d.ev v;obtain⟨arr,p,J,L,g4,M,N,O,P,Q⟩:=MapAt.all (d.2.heap.bx _ G);have aa:((n.toNat:Nat):Int)=n:=by omega
   obtain⟨i,D,h2,h3,T⟩:=qgu (n:=n.toNat) rv J L P N ⟨H,Y,by omega⟩;rw [aa] at D;have F:=qpy n.toNat (VL.ev S.σ v) es;have ac:∀ j,(∀ r,r ≠ b->j.heap[r]? = w.heap[r]?)->j.heap[b]? = some (.map (arr.modify i fun e=>{ e with val:=a.eval v }) A)->zf w I j I->xR j I b (.m ks (jF n.toNat (VL.ev S.σ v) es) A):=fun j _ hw ab=>by
    refine⟨_,hw,⟨?_,?_,?_,?_,?_⟩,?_,Q⟩
    ·simp_all
    ·simp_all
    ·intro e u;have:e.2.1 ∈ (jF n.toNat (VL.ev S.σ v) es).map (·.2.1):=x9.2 ⟨e,u,rfl⟩;rw [F.2] at this;obtain⟨k,y,q⟩:=x9.1 this;rw [<-q];exact M k y
    ·simp_all
    ·intro e u;have:e.1 ∈ (jF n.toNat (VL.ev S.σ v) es).map (·.1):=x9.2 ⟨e,u,rfl⟩;rw [F.1] at this;obtain⟨k,y,q⟩:=x9.1 this;rw [<-q];exact O k y
    ·rw [qQk];exact V.reps_mono ab _ _ T
   obtain⟨W,U⟩:=d.2.setX X p ac;have R:arr.findIdx? (fun e=>(e.born:Int) == n)=some i:=by rw [show arr=arr.toList.toArray from rfl,List.findIdx?_toArray];exact D
   refine⟨_,_,I,?_,⟨(d.1.mono U).put o.dst (qz hd) (v:=.any) (by simp only [V.rep]),W.put _ _⟩,h⟩;simp only [execOp,ho,rx,z,Instr.entryStore,Sem.run_bind,Result.andThen_ok,MapKept.run_getObj_map p,asInt,asIntOf,R,wy _ p (fun _ _ _ h=>by cases h),Sem.run_pure]
  simp_all
 simp_all
end
def Yg (a:List Int):ByteArray:=⟨(a.map fun n=>UInt8.ofNat n.toNat).toArray⟩
theorem Yf (a:List Int):a.foldl (fun r n=>r.push (UInt8.ofNat n.toNat)) ByteArray.empty=Yg a:=by
 have:∀ (a:List Int) (r:ByteArray),a.foldl (fun r n=>r.push (UInt8.ofNat n.toNat)) r=⟨r.data++(a.map fun n=>UInt8.ofNat n.toNat).toArray⟩:=by
  intro a
  induction a with
  | nil=>simp
  | cons n a d =>
   simp_all
 rw [this];show ByteArray.mk _=ByteArray.mk _;simp
def qd2 (cs:List V) (k:ByteArray->Prop) (_:xp k):Prop:=∃ a:List Int,cs=a.map (fun n=>V.lit (.int .u8 n))/\k (Yg a)
def ZA (P:Program) (S:St) (e:TypeId) (v:V) (K:V->Prop):Prop :=
 match v with
 | .lit (.slice none _ _)=>P.underlying e=some (.int .u8)/\K (.lit (.string ⟨#[]⟩))
 | .lit (.slice (some ⟨b,o,none⟩) n _)=>P.underlying e=some (.int .u8)/\match zF S.boxes b with
  | some a=>o+n<=a.length/\qd2 ((a.drop o).take n) (fun x=>K (.lit (.string x))) .mk
  | none=>False
 | .list _ k es=>P.underlying e=some (.int .u8)/\k=1/\(∀ e ∈ es,e.length=1)/\qd2 es.flatten (fun x=>K (.lit (.string x))) .mk
 | _=>False
abbrev vW (s:ByteArray):List (List V):=s.data.toList.map fun c=>[V.lit (.int .u8 c.toNat)]
def qeg (P:Program) (e:TypeId) (v:V) (K:V->Prop):Prop :=
 match v with
 | .lit (.string s)=>P.underlying e=some (.int .u8)/\K (.list none 1 (vW s))
 | _=>False
def Zw (P:Program) (S:St) (s t:TypeId) (v:V) (K:V->Prop):Prop :=
 match P.underlying s,P.underlying t with
 | some (.slice e),some .string=>ZA P S e v K
 | some .string,some (.slice e)=>qeg P e v K
 | _,_=>convK P s t v K
section
variable {P:Program}
theorem UZ {w:World} {I:Cells} {b o:Nat} {a:List Int} {c:Nat} {s t e:TypeId} (u:P.underlying s=some (.slice e)) (p:P.underlying e=some (.int .u8)) (y:P.underlying t=some .string)
  (h:Has w I (a.map fun n=>V.lit (.int .u8 n)) b o):(convert s t (.slice (some ⟨b,o,none⟩) a.length c)).run P w=.ok (.string (Yg a)) w:=by
 rw [run_convert_bytes_string w s t e _ _ _ u p y];rw [run_bytesToString w _ _ _ a,Yf];have:=run_loadCells (P:=P) w ⟨b,o,none⟩ a.length (fun j=>(a.map (Value.int .u8)).getD j undef) (fun j q=>by
  obtain⟨x,k,d⟩:=h j (.lit (.int .u8 a[j])) (by simp);simp only [V.rep] at d;rw [Addr.add_lit,k,d];simp_all)
 rw [this];congr 1;apply qMc;simp only [];refine qO8 fun j=>?_;by_cases q:j < a.length
 ·simp_all
 simp_all
theorem qV.bytes {w:World} {I:Cells} (e:TypeId) (s:ByteArray) (j:∀ b o,I b o->b < w.heap.size) :
  qV (fun b=>b < w.heap.size) w I (Lib.bytesWorld w e s) (fun b i=>I b i∨(b=w.heap.size/\i < s.size)):=by
 have h:=fun b d=>Lib.bytesWorld_at_old w e s b d;refine⟨rfl,rfl,rfl,by rw [Lib.bytesWorld_size];omega,h,.of (fun b i a=>⟨.inl a,Lib.bytesWorld_old w e s _ (j b i a)⟩) h,fun b i d a=>?_,fun _=>qF2 _⟩;rcases a with a | ⟨rfl,_⟩
 ·omega
 omega
theorem Vu {w:World} {I:Cells}:∀ l:List UInt8,V.reps w I (l.map fun c=>[V.lit (.int .u8 c.toNat)]).flatten (l.map fun c=>Value.int .u8 c.toNat)
 | []=>by simp only [Jx,List.flatten_nil,V.reps]
 | c::l=>by
  simp only [z7,List.flatten_cons,List.cons_append,List.nil_append,V.reps,V.rep];exact⟨trivial,Vu l⟩
theorem qby {C S} {o:Oper} {s t:TypeId} {x:Operand} {K:St->Prop} (O:o.op=.convert s t x) (hd:zH C.N o=true) (h:Zw C.P S s t (VL.ev S.σ x) fun v=>K (S.put o.dst v)):zQ C S o K:=by
 have fin:∀ p:List Int,K (S.put o.dst (.lit (.string (Yg p))))->(∀ a w I,Γ C S a w I->(convert s t (a.eval x)).run C.P w=.ok (.string (Yg p)) w)->zQ C S o K:=fun p u P =>
  zQ.of_value fun a w I d=>⟨.string (Yg p),w,_,I,by simp only [execOp,O,Sem.run_bind,P a w I d,Result.andThen_ok,Sem.run_pure],⟨d.1.put o.dst (qz hd) (v:=.lit (.string (Yg p))) (by rfl),d.2.put _ _⟩,u⟩
 unfold Zw at h;split at h
 rotate_left
 ·rename_i e D F;unfold qeg at h;split at h
  ·rename_i str z;obtain⟨q,u⟩:=h;refine zQ.of_value fun a w I d=>?_;have rx:=d.ev x;rw [z] at rx;simp only [V.rep] at rx;have K:=qV.bytes (w:=w) (I:=I) e str d.2.heap.inn;have X:=d.2.quiet _ (fun _ M=>M) K (fun b i N=>by
    rw [Lib.bytesWorld_size];rcases N with N | ⟨rfl,_⟩
    ·have:=d.2.heap.inn b i N;omega
    simp)
   refine⟨.slice (some ⟨w.heap.size,0,none⟩) str.size (grownCap w str.size 0 e),_,_,_,by simp only [execOp,O,Sem.run_bind,rx,Lib.run_convert_string_bytes w s t e str D F q,Result.andThen_ok,Sem.run_pure],⟨(d.1.mono K.stays).put o.dst (qz hd) (v:=.list none 1 (vW str)) ?_,X.put _ _⟩,u⟩;simp only [V.rep];have A:(vW str).length=str.size:=by simp [vW]
   rw [A];refine⟨(by simp),some ⟨w.heap.size,0,none⟩,_,rfl,grownCap_ge _ _ _ _,.inr ⟨w.heap.size,0,rfl,je (Vu str.data.toList) (fun r P=>?_) fun j v y=>?_⟩⟩
   ·obtain⟨c,_,rfl⟩:=x9.1 P;rfl
   ·rw [qPx,qMp] at y;obtain⟨c,R,rfl⟩:=y;have hj:j < str.size:=by
     have:=(qNj.1 R).1;simpa using this
    refine⟨?_,.inr ⟨rfl,by omega⟩,?_⟩
    ·rw [qJ0,Lib.bytesWorld_cell w e str j hj,vk,R];rfl
    ·simp [one]
  simp_all
 ·obtain⟨v,y,hk⟩:=qg4 (C:=C) O h;exact zQ.det hd y hk
 rename_i e D F;unfold ZA at h;split at h
 ·rename_i n c z;obtain⟨q,u⟩:=h;refine fin [] u fun a w I d=>?_;have rx:=d.ev x;rw [z] at rx;simp only [V.rep] at rx;rw [rx,run_convert_bytes_string w s t e _ _ _ D q F];rfl
 ·rename_i b off n c z;obtain⟨q,h⟩:=h;split at h
  ·rename_i W M;obtain⟨ac,p,G,u⟩:=h;refine fin p u fun a w I d=>?_;have rx:=d.ev x;rw [z] at rx;simp only [V.rep] at rx;have A:p.length=n:=by
    have:=congrArg List.length G;simp at this;omega
   have hh:=(Has.of_box (d.2.heap.bx _ (xq M))).drop off;rw [rx,<-A];refine UZ D q F (I:=I) fun j v y=>?_;rw [<-G] at y;have ab:(W.drop off)[j]? = some v:=by
    rw [qLd] at y;split at y
    ·omega
    ·cases y
   simpa using hh j v ab
  simp_all
 ·rename_i own k es z;obtain⟨q,rfl,T,p,G,u⟩:=h;refine fin p u fun a w I d=>?_;have rx:=d.ev x;rw [z] at rx;simp only [V.rep] at rx;obtain⟨_,J,c,H,Y,L⟩:=rx;have aa:∀ es:List (List V),(∀ e ∈ es,e.length=1)->es.flatten.length=es.length:=by
   intro es
   induction es with
   | nil=>simp
   | cons e es U=>intro h;simp [U (fun e q=>h e (z8 _ q)),h e x6];omega
  have A:p.length=es.length:=by
   have:=congrArg List.length G;rw [aa es T] at this;simpa using this.symm
  rcases L with L | ⟨b,off,Z,h5⟩
  ·subst L;have:p=[]:=by simpa using A
   subst this;cases J with
   | none =>
    rw [H,run_convert_bytes_string w s t e _ _ _ D q F];rfl
   | some J =>
    rw [H,run_convert_bytes_string w s t e _ _ _ D q F,run_bytesToString w J _ _ [] (by rfl),Yf]
  ·subst Z;rw [H,<-A];refine UZ D q F (I:=I) ?_;have Q:V.ats w I es.flatten b off:=by
    clear G A T H Y z
    induction es generalizing off with
    | nil=>assumption
    | cons e es U =>
     simp only [V.lies] at h5;rw [qKs,vZ];simp_all
   rw [G] at Q;exact Has.of_ats Q
 simp_all
end
variable {t:TypeId}
theorem KP {C S w I} (q:kS C S w I) {Y ty e:TypeId} {k T:Nat} {z:List Value} (R:C.P.underlying t=some (.slice e)) (hk:zK C.P e=some k) (aK:QN C.P e=some T) (hz:kG C.P e=some z)
  (aL:0 < T) (a8:z.length=k) {r:Row} {rs:List Row} (H:S.rows=r::rs) (a3:r.k=k) (bh:r.e=e) {es fs:List (List V)} (hl:V.rep w I (.list (some r.x) k es) r.x)
  {x:Value} {news:List Value} (av:∀ J ∈ fs,J.length=k) (ac:V.reps w I fs.flatten news) (aW:∀ u ∈ news,one u) (Q:Src C.P k Y x fs.length news w) (af:(es.length+fs.length) * T<=140737488355328) :
  ∃ y' w' n,(Builtin.append_ #[t,Y] ty #[r.x,x]).run C.P w=.ok y' w'/\kS C { S with rows:=⟨y',k,e⟩::rs } w' n/\zf w I w' n/\V.rep w' n (.list (some y') k (es++fs)) y':=by
 have hr:=q.heap.rw r (H▸x6);obtain⟨ah,⟨O,bi,aC,aE⟩,aF⟩:=hr;rw [a3] at ah aC aE aF;have aB:=hl;simp only [V.rep] at aB;obtain⟨_,a0,c0,A,aU,ab⟩:=aB;obtain⟨i,a,U,ay,D,az,aS⟩:∃ i,C.P.info? e=some i/\i.size=k/\i.bytes=T/\∃ D,i.zero=some D/\D.cells.toList=z:=by
  replace hk:=uM hk;unfold QN at aK;replace hz:=X0 hz;cases be:C.P.info? e with
  | none=>simp_all
  | some i =>
   simp_all
 by_cases aQ:fs=[]
 ·subst aQ;have aD:news=[]:=by
   cases news with
   | nil=>rfl
   | cons u v=>simp [V.reps] at ac
  subst aD;refine⟨r.x,w,I,?_,?_,zf.refl _ _,by simp_all⟩
  ·rw [A];have hc:=Q.cells;have hn:=Q.len;simp only [List.length_nil] at hc hn;rcases Q.kind with⟨J,aA⟩ | aA <;> cases a0 <;> simp [Builtin.append_,run_underlying R,run_underlying aA,sizeOf,typeInfo,a,U,hn,aU,hc,storeCells]
  ·have:({ S with rows:=⟨r.x,k,e⟩::rs }:St)=S:=by
    cases S with
    | mk σ boxes rows=>simp only at H;subst H;cases r;simp_all
   simp_all
 have bf:0 < fs.length:=by cases fs with | nil=>simp_all | cons _ _=>simp
 have W:news.length=fs.length * k:=by rw [qM ac,kR av]
 have ba:D.cells.size=k:=by have:=congrArg List.length aS;simpa [a8] using this
 have bg:es.length+fs.length<=140737488355328:=km (qOj _ aL) af;have aV:es.length+fs.length<=maxLen:=by simp only [maxLen];omega
 have bb:fs.length * T<=140737488355328:=km (qG4 _ (Nat.le_add_left _ _)) af;have aH:kS C { S with rows:=rs } w.drew I:=by
  have:=(q.drop H).quiet (fun _=>True) (fun _ _=>trivial) (qV.drew _ w I) q.heap.inn;exact this
 have grown:∀ (olds:List Value),olds.length=es.length * k->V.reps w I es.flatten olds->(∀ x ∈ olds,one x)->(∀ J ∈ es,J.length=k)->∀ (old:Nat) (F:Array Value),F.toList=olds++news++(Builtin.zeroCells D.cells (grownCap w (es.length+fs.length) old e - (es.length+fs.length))).toList ->
   ∃ n,kS C { S with rows:=⟨.slice (some ⟨w.heap.size,0,none⟩) (es.length+fs.length) (grownCap w (es.length+fs.length) old e),k,e⟩::rs } (w.drew.alloc (.cells F e)) n/\zf w I (w.drew.alloc (.cells F e)) n /\
    V.rep (w.drew.alloc (.cells F e)) n (.list (some (.slice (some ⟨w.heap.size,0,none⟩) (es.length+fs.length) (grownCap w (es.length+fs.length) old e))) k (es++fs)) (.slice (some ⟨w.heap.size,0,none⟩) (es.length+fs.length) (grownCap w (es.length+fs.length) old e)):=by
  intro olds h1 h2 h3 h4 old F ao;have bd:=grownCap_ge w (es.length+fs.length) old e;have ag:grownCap w (es.length+fs.length) old e<=maxLen:=grownCap_le_maxLen w (es.length+fs.length) old e aV;have ai:(es++fs).length=es.length+fs.length:=by simp
  have a2:(olds++news).length=(es++fs).length * k:=by rw [zr,h1,W,ai,uu]
  have aG:F.toList.take ((es++fs).length * k)=olds++news:=by rw [ao,<-a2,qBf];rfl
  have au:zf w I w.drew I:=(qV.drew (fun _=>True) w I).stays;obtain⟨n,K,L,M⟩:=aH.newRow F e k ah (es++fs) (grownCap w (es.length+fs.length) old e) (by
    have:F.toList.length=_:=congrArg List.length ao;simp only [zr,Array.length_toList,JH,ba,h1,W] at this;rw [this,<-uu,<-uu];simp_all) (by omega) ag (fun J he=>by
     rcases z6.1 he with he | he
     ·simp_all
     simp_all) (by
    rw [aG];intro x N;rcases z6.1 N with N | N
    ·simp_all
    simp_all) (by
    rw [aG,qK0];exact V.reps_mono au _ _ (qC h2 ac))
  rw [ai] at K M;exact⟨n,K,au.trans L,M⟩
 rcases aE with⟨aY,aD⟩ | ⟨g,cap,p,ae,_,G,aX,ag,aq,a4⟩
 ·
  have aP:es=[]:=by
   rw [aY] at A;simp only [Value.slice.injEq] at A;exact qL2 A.2.1.symm
  subst aP;have ad:=run_append_grow_src (P:=C.P) w t Y ty e i D R a az none 0 0 [] (run_firstCells_none w.drew i.size 0 0 0) x fs.length news (U▸Q) (by omega) (by omega) (by rw [ay];exact growslice_fits (by omega) (by omega));obtain⟨n,K,L,M⟩:=grown [] (by simp) (by simp [V.reps]) (by simp) (by simp) 0 (([]++news).toArray++Builtin.zeroCells D.cells (grownCap w (0+fs.length) 0 e - (0+fs.length))) (by simp);simp only [List.length_nil] at K L M;exact⟨_,_,n,by simp_all,K,L,M⟩
 ·have hn:V6 r.x=es.length:=by rw [A];rfl
  rw [hn] at ae aX a4 aC aF;have a7:a0=some ⟨g,0,none⟩/\c0=cap:=by
   rw [ae] at A;simp only [Value.slice.injEq] at A;exact⟨A.1.symm,A.2.2.symm⟩
  have aZ:∃ olds,olds.length=es.length * k/\V.reps w I es.flatten olds/\(∀ x ∈ olds,one x)/\(∀ J ∈ es,J.length=k)/\V.lies w I k es g 0/\∀ j v,olds[j]? = some v->w.cell? ((⟨g,0,none⟩:Addr).add j)=some v:=by
   rcases ab with rfl | ⟨b,o,hb,ab⟩
   ·exact⟨[],by simp,by simp [V.reps],by simp,by simp,by simp only [V.lies],by simp⟩
   ·rw [a7.1] at hb;simp only [qAo,Addr.mk.injEq,and_true] at hb;obtain⟨rfl,rfl⟩:=hb;obtain⟨p1,olds,p2,p3,p4⟩:=ZN ab;exact⟨olds,by rw [qM p2,kR p1],p2,p3,p1,ab,fun j v hv=>by rw [Addr.add_lit];simp_all⟩
  obtain⟨olds,o1,o2,o3,o4,o5,o6⟩:=aZ;by_cases am:es.length+fs.length<=cap
  ·
   have bc:es.length * k+news.length<=p.size:=by rw [W,aq,<-uu];exact qG4 _ am
   have ad:=yT (P:=C.P) w t Y ty e i R a g 0 es.length cap x fs.length news (U▸Q) am p O G (by simp_all);rw [U,qJ0] at ad;have ax:r.x.ownBlock=some g:=by rw [ae];rfl
   have an:∀ o,I g o->o < es.length * k:=fun o a=>by
    rcases qNb o (es.length * k) with h | h
    ·exact h
    simp_all
   generalize aO:(p.toList.take (es.length * k)++news++p.toList.drop (es.length * k+news.length)).toArray=d at ad;have aa:d.toList=p.toList.take (es.length * k)++news++p.toList.drop (es.length * k+news.length):=by rw [<-aO]
   have aM:d.size=cap * k:=by
    have:=congrArg List.length aa;simp only [Array.length_toList,zr,kB,qA8] at this;rw [this,<-aq];omega
   have a6:(w.setRow g d).heap[g]? = some (.cells d O (0,0)):=setRow_heap w g p d O (0,0) G;have X:zf w I (w.setRow g d) (fun b o=>I b o∨(b=g/\es.length * k<=o/\o < (es.length+fs.length) * k)):=.but g G (fun _ e=>by cases e) (h:=fun b o a=>by
    refine⟨.inl a,?_⟩;by_cases hb:b=g
    ·subst hb;have ho:=an o a;rw [cell_setRow_same w b o p d O (0,0) G];have:w.cell? ⟨b,o,none⟩=p[o]? := by simp [World.cell?, G]
     rw [this,<-qOr,aa,jm,qOw (by simp_all),qLd,if_pos ho,qOr]
    ·exact cell_setRow_other w g d _ hb) (hb:=fun b' aJ=>setRow_other w g b' d aJ)
   have ap:g ∈ qL S.boxes S.rows:=by
    rw [H];exact z6.2 (.inr (qMx.2 ⟨r,x6,ax⟩))
   have aj:=q.heap.nodup;rw [H] at aj;have ak:(qL S.boxes (r::rs)).Perm (g::qL S.boxes rs):=by
    have:Row.blk r=some g:=ax;simp only [qL,List.filterMap_cons,this];exact ux
   have aR:g ∉ qL S.boxes rs:=(js.1 (ak.nodup_iff.1 aj)).1;have W0:=q.drop H;have Z:wX (w.setRow g d) (fun b o=>I b o∨(b=g/\es.length * k<=o/\o < (es.length+fs.length) * k)) S.boxes rs:=by
    refine W0.heap.step X (fun b hb=>setRow_other w g b d (fun e=>aR (e▸hb))) (fun b hb o a=>?_) (fun b o a=>?_)
    ·rcases a with a | ⟨rfl,_⟩
     ·omega
     simp_all
    ·rcases a with a | ⟨rfl,_⟩
     ·simpa using q.heap.inn b o a
     ·simpa using (vx.1 G).1
   have ai:(es++fs).length=es.length+fs.length:=by simp
   have a5:d.toList.take ((es.length+fs.length) * k)=olds++news:=by
    have e1:p.toList.take (es.length * k)=olds:=by
     apply qO8;intro j;rw [qLd];by_cases hj:j < es.length * k
     ·have aT:j < olds.length:=by omega
      have:=o6 j _ (yb aT);rw [Addr.add_lit] at this;simp only [World.cell?, G,Option.isSome_none,kA,if_false,qJ0] at this;simp_all
     ·rw [if_neg hj,qMa (by omega)]
    rw [aa,e1,qBf];rw [zr,o1,W,uu]
   refine⟨.slice (some ⟨g,0,none⟩) (es.length+fs.length) cap,w.setRow g d,_,by simp_all,⟨⟨Z.bx,fun r' al=>?_,?_,Z.inn,Z.glob⟩,fun b hb=>?_,?_,q.lo⟩,X,?_⟩
   ·rcases xb.1 al with rfl | al
    ·refine⟨ah,⟨O,_,by simp only [V6,zr,o1,W,uu],.inr ⟨g,cap,d,rfl,KM _,a6,am,ag,aM,a5⟩⟩,fun L aw o ho a=>?_⟩;simp only [Value.ownBlock,qAo] at aw;subst aw;simp only [V6] at ho;rcases a with a | ⟨_,_,a⟩
     ·have:=an o a;have:es.length * k<=(es.length+fs.length) * k:=qG4 _ (qQy _ _);omega
     omega
    ·exact Z.rw r' al
   ·have:(qL S.boxes ((⟨.slice (some ⟨g,0,none⟩) (es.length+fs.length) cap,k,e⟩:Row)::rs)).Perm (g::qL S.boxes rs):=by
     simp only [qL,List.filterMap_cons,Row.blk,Value.ownBlock];exact ux
    exact this.nodup_iff.2 (ak.nodup_iff.1 aj)
   ·have:(qL S.boxes ((⟨.slice (some ⟨g,0,none⟩) (es.length+fs.length) cap,k,e⟩:Row)::rs)).Perm (g::qL S.boxes rs):=by
     simp only [qL,List.filterMap_cons,Row.blk,Value.ownBlock];exact ux
    exact q.mine b (by rw [H];exact ak.mem_iff.2 (this.mem_iff.1 hb))
   ·exact q.keeps.trans ⟨rfl,rfl,rfl,by simp,fun b hb=>setRow_other w g b d (fun e=>q.mine g ap (e▸hb)),X,(fun b o hb a=>by
     rcases a with a | ⟨rfl,_⟩
     ·omega
     ·exact absurd hb (q.mine b ap)),fun _=>w3 _⟩
   ·simp only [V.rep];refine⟨fun y hy=>(KL hy),_,cap,by simp,by omega,.inr ⟨g,0,rfl,?_⟩⟩;rw [ur];refine⟨V.lies_mono X _ _ _ _ o5,je (V.reps_mono X _ _ ac) av fun j x N=>⟨?_,.inr ⟨rfl,by omega,?_⟩,aW x (qMm N)⟩⟩
    ·rw [cell_setRow_same w g _ p d O (0,0) G,<-qOr,aa,jm,qJ0];have R:(p.toList.take (es.length * k)).length=es.length * k:=by simp;omega
     rw [qPq (by omega),R,qO0,qOw (qNj.1 N).1];omega
    ·have:=(qNj.1 N).1;rw [uu];omega
  ·
   have a1:(Builtin.firstCells i.size es.length (.slice (some ⟨g,0,none⟩) es.length cap)).run C.P w.drew=.ok olds.toArray w.drew :=
    run_firstCells_some w.drew i.size es.length ⟨g,0,none⟩ es.length cap olds (by simp_all) (by simp_all)
   have ad:=run_append_grow_src (P:=C.P) w t Y ty e i D R a az (some ⟨g,0,none⟩) es.length cap olds a1 x fs.length news (U▸Q) (by omega) (by omega) (by rw [ay];exact growslice_fits (by omega) af);obtain⟨n,K,L,M⟩:=grown olds o1 o2 o3 o4 cap ((olds++news).toArray++Builtin.zeroCells D.cells (grownCap w (es.length+fs.length) cap e - (es.length+fs.length))) (by simp);exact⟨_,_,n,by simp_all,K,L,M⟩
def Z8 (k:Value):List Ent->List Ent
 | []=>[]
 | e::r=>if uG k e.2.1=true then r else e::Z8 k r
theorem qg7 (k:Value):∀ es:List Ent,(Z8 k es).Sublist es
 | []=>zc _
 | e::r=>by
  unfold Z8;split
  ·simp
  ·exact(qg7 k r).cons_cons _
theorem qg5 {w:World} {I:Cells} {k:Value}:∀ {arr:List MapEntry} {es:List Ent} {i:Nat},arr.map (·.born)=es.map (·.1)->arr.map (·.key)=es.map (·.2.1)->V.reps w I (es.map (·.2.2)) (arr.map (·.val)) ->
  (wu k arr i=none/\Z8 k es=es)∨∃ j x,wu k arr i=some (i+j,x)/\j < arr.length/\(arr.eraseIdx j).map (·.born)=(Z8 k es).map (·.1)/\(arr.eraseIdx j).map (·.key)=(Z8 k es).map (·.2.1)/\V.reps w I ((Z8 k es).map (·.2.2)) ((arr.eraseIdx j).map (·.val))
 | [],[],i,_,_,_=>.inl ⟨rfl,rfl⟩
 | x::arr,e::es,i,hb,hk,hr=>by
  simp only [z7,qKi] at hb hk;simp only [z7,V.reps] at hr;by_cases a:uG k x.key=true
  ·have d:uG k e.2.1=true:=hk.1▸a;refine .inr ⟨0,x.val,by simp [wu,a],by simp,?_⟩;simp only [Z8,d,if_true,List.eraseIdx_cons_zero];simp_all
  ·have d:¬ uG k e.2.1=true:=hk.1▸a;rcases qg5 (k:=k) (i:=i+1) hb.2 hk.2 hr.2 with⟨n,o⟩ | ⟨j,z,n,o,p,q,u⟩
   ·left;refine⟨by simp [wu,a,n],?_⟩;simp only [Z8,d,if_false,kA,o]
   ·right;refine⟨j+1,z,by simp [wu,a,n];omega,by simp_all,?_⟩;simp only [Z8,d,if_false,kA,List.eraseIdx_cons_succ,z7,V.reps];simp_all
 | [],_::_,_,h,_,_=>by simp at h
 | _::_,[],_,h,_,_=>by simp at h
def qly (S:St) (d:Option Nat) (ks:List Sh × Bool) (h:Value) (x:V) (K:St->Prop):Prop :=
 match x with
 | .lit (.map (some b))=>match wq S.boxes b with
  | some (e,es,a)=>e=ks/\K ((S.setBoxes (VL.setX S.boxes b (.m ks (Z8 h es) a))).put d (.lit (.tuple #[])))
  | none=>False
 | _=>False
def qc9 (P:Program) (S:St) (d:Option Nat) (t:TypeId) (x k:V) (K:St->Prop):Prop :=
 match jG P t with
 | some (_,a,_)=>match Zo k with
  | some e=>wd a e=true/\qly S d a e x K
  | none=>False
 | none=>False
variable {o:Oper} {c:Call} {x:Operand} {K:St->Prop}
theorem qel {C S} {k:Operand} {O:TypeId} (ho:o.op=.call c) (hc:c.callee=.builtin .delete) (ha:c.args.toList=[x,k]) (ht:c.argTypes.toList=[t,O]) (hd:zH C.N o=true)
  (h:qc9 C.P S o.dst t (VL.ev S.σ x) (VL.ev S.σ k) K):zQ C S o K:=by
 have af:c.args=#[x,k]:=by rw [<-qA3 (xs:=c.args),ha]
 have ak:c.argTypes=#[t,O]:=by rw [<-qA3 (xs:=c.argTypes),ht]
 unfold qc9 at h;split at h
 ·rename_i kt ks z hT;obtain⟨et,hu,ac,D⟩:=uZ hT;split at h;rename_i u ah;obtain⟨ab,h⟩:=h;unfold qly at h;split at h
  ·rename_i b hx;split at h
   ·rename_i N es A q;obtain⟨rfl,h⟩:=h;obtain⟨ae,aj,ag⟩:=Qs ac ab;have ad:=kN q;have hb:b ∈ S.boxes.map (·.1):=x9.2 ⟨_,ad,rfl⟩;have aa:∀ w R,(Instr.checkKey R 10000 kt u).run C.P w=.ok () w:=fun w R=>by
     rw [ae];exact u9 12 kt N.1 aj 10000 (by omega) _ w ag
    refine zQ.of_value fun a w I n=>?_;have runs:∀ y d,(Builtin.delete_ #[t,O] o.type #[a.eval x,a.eval k]).run C.P w=.ok y d->(execOp a.eval o).run C.P w=.ok (.value y) d:=fun y d hr=>by
     simp only [execOp,ho,resolve,hc,af,ak];simp [invoke,builtin,hr]
    have rx:=n.ev x;rw [hx] at rx;simp only [V.rep] at rx;have rk:=j5 ah (n.ev k);obtain⟨arr,p,T,U,g4,W,X,Y,Z,g9⟩:=MapAt.all (n.2.heap.bx _ ad);have hf:=jw ac ab w arr.toList g4;have M:=qg7 u es;rcases qg5 (i:=0) (k:=u) T U Z with⟨P,Q⟩ | ⟨j,z',P,Q,q3,q4,q5⟩
    ·have D:∀ d,(∀ r,r ≠ b->d.heap[r]? = w.heap[r]?)->d.heap[b]? = some (.map arr A)->zf w I d I->xR d I b (.m N (Z8 u es) A):=fun d _ F L=>by
      rw [Q];exact⟨_,F,⟨T,U,W,X,Y⟩,V.reps_mono L _ _ Z,g9⟩
     obtain⟨H,G⟩:=n.2.setX hb p D;refine⟨.tuple #[],_,_,I,runs _ _ ?_,⟨(n.1.mono G).put o.dst (qz hd) (by rfl),H.put _ _⟩,h⟩;rw [rx,rk];simp only [Builtin.delete_,qPa,List.getElem?_cons_zero,List.getElem?_cons_succ,Sem.run_bind,run_underlying hu,Result.andThen_ok,MapKept.run_getObj_map p,aa,hf,P,wy _ p (fun _ _ _ h=>by cases h),Sem.run_pure]
    ·have ai:j < arr.size:=by simpa using Q
     have J:(arr.eraseIdxIfInBounds j).toList=arr.toList.eraseIdx j:=by
      rw [Array.eraseIdxIfInBounds,dif_pos ai,Array.toList_eraseIdx]
     have D:∀ d,(∀ r,r ≠ b->d.heap[r]? = w.heap[r]?)->d.heap[b]? = some (.map (arr.eraseIdxIfInBounds j) A)->zf w I d I->xR d I b (.m N (Z8 u es) A):=fun d _ F L=>by
      refine⟨_,F,⟨by rw [J];omega,by rw [J];omega,fun e q=>W e (M.subset q),X.sublist (M.map _),fun e q=>Y e (M.subset q)⟩,?_,g9⟩;rw [J];exact V.reps_mono L _ _ q5
     obtain⟨H,G⟩:=n.2.setX hb p D;refine⟨.tuple #[],_,_,I,runs _ _ ?_,⟨(n.1.mono G).put o.dst (qz hd) (by rfl),H.put _ _⟩,h⟩;rw [rx,rk];simp only [Builtin.delete_,qPa,List.getElem?_cons_zero,List.getElem?_cons_succ,Sem.run_bind,run_underlying hu,Result.andThen_ok,MapKept.run_getObj_map p,aa,hf,P,qJ0,wy _ p (fun _ _ _ h=>by cases h),Sem.run_pure]
   simp_all
  ·simp_all
  simp_all
 simp_all
def qK (A B:Prop):Prop:=A/\B
def qm3 (K:Value->Prop):Prop:=∀ y,K y
def yS (S:St) (d:Option Nat) (k a:Nat) (e:TypeId) (n:V) (fs:List (List V)) (K:St->Prop):Prop :=
 match n with
 | .lit (.slice none 0 0)=>qK (fs.length * a<=140737488355328) (qm3 fun y=>K ((S.addRow ⟨y,k,e⟩).put d (.list (some y) k fs)))
 | .list (some y) k' es=>qK (k'=k) (uj S.rows y fun r j=>qK (r.k=k/\r.e=e/\(es.length+fs.length) * a<=140737488355328) (qm3 fun h=>K ((S.setRows (⟨h,k,e⟩::j)).put d (.list (some h) k (es++fs)))))
 | _=>False
def zY (P:Program) (S:St) (d:Option Nat) (t:TypeId) (j n:V) (K:St->Prop):Prop :=
 match P.underlying t with
 | some (.slice e)=>match zK P e,QN P e,kG P e with
  | some k,some a,some z=>(0 < k/\0 < a/\z.length=k)/\onL n k fun h=>yS S d k a e j h K
  | _,_,_=>False
 | _=>False
theorem qi5 {C:Ctx} {S:St} {e:TypeId} {k:Nat} {x:V} {fs:List (List V)} (hu:C.P.underlying t=some (.slice e)) (z:∀ w I d,V.rep w I x d->∃ a c,d=.slice a fs.length c/\fs.length<=c/\(fs=[]∨∃ b o,a=some ⟨b,o,none⟩/\V.lies w I k fs b o)) :
  ∀ w I d,kS C S w I->V.rep w I x d->(∀ y ∈ fs,y.length=k)/\∃ news,V.reps w I fs.flatten news/\(∀ u ∈ news,one u)/\Src C.P k t d fs.length news w:=fun w I d _ D=>by
 obtain⟨a,c,rfl,H,F⟩:=z w I d D;by_cases h:fs=[]
 ·subst h;refine⟨by simp,[],by simp [V.reps],by simp,?_⟩;cases a with
  | none=>exact Src.ofNil (P:=C.P) w hu c
  | some a=>exact Src.ofSlice (P:=C.P) w hu a 0 c [] (by simp) (by simp) (by simp)
 ·obtain⟨b,o,rfl,A⟩:=F.resolve_left h;obtain⟨n,news,p,q,J⟩:=ZN A;exact⟨n,news,p,q,Src.ofSlice (P:=C.P) w hu ⟨b,o,none⟩ fs.length c news (by rw [qM p,kR n]) (fun j u G=>by rw [Addr.add_lit];simp_all) (fun u hu=>vl (q u hu))⟩
def qbw (s:ByteArray):List (List V):=(Zz s).map fun v=>[v]
theorem qpd (s:ByteArray):(qbw s).flatten=Zz s:=by
 unfold qbw
 induction Zz s with
 | nil=>rfl
 | cons v r a=>simp [a]
theorem qu6 (s:ByteArray):(qbw s).length=s.size:=by simp [qbw,Zz]
theorem qpj {C:Ctx} {S:St} {s:ByteArray} (hu:C.P.underlying t=some .string) :
  ∀ w I a,kS C S w I->V.rep w I (.lit (.string s)) a->(∀ h ∈ qbw s,h.length=1)/\∃ news,V.reps w I (qbw s).flatten news/\(∀ u ∈ news,one u)/\Src C.P 1 t a (qbw s).length news w:=fun w I a _ d=>by
 simp only [V.rep] at d;subst d;refine⟨fun e j=>?_,byteCells s,by rw [qpd];exact Yt s,fun u hu=>?_,by rw [qu6];exact Src.ofString (P:=C.P) w hu s⟩
 ·obtain⟨v,_,rfl⟩:=x9.1 j;rfl
 ·obtain⟨_,_,rfl⟩:=x9.1 hu;exact trivial
variable {s:Operand}
theorem UQ {C S} {p e:TypeId} {k A:Nat} {z:List Value} {fs:List (List V)} (ho:o.op=.call c) (hc:c.callee=.builtin .append) (ha:c.args.toList=[s,x]) (ae:c.argTypes.toList=[t,p]) (hd:zH C.N o=true)
  (hu:C.P.underlying t=some (.slice e)) (U:zK C.P e=some k) (T:QN C.P e=some A) (X:kG C.P e=some z) (h0:0 < k) (Q:0 < A) (Y:z.length=k)
  (src:∀ w I Z,kS C S w I->V.rep w I (VL.ev S.σ x) Z->(∀ e' ∈ fs,e'.length=k)/\∃ news,V.reps w I fs.flatten news/\(∀ u ∈ news,one u)/\Src C.P k p Z fs.length news w)
  (h:yS S o.dst k A e (VL.ev S.σ s) fs K):zQ C S o K:=by
 have aa:c.args=#[s,x]:=by rw [<-qA3 (xs:=c.args),ha]
 have ad:c.argTypes=#[t,p]:=by rw [<-qA3 (xs:=c.argTypes),ae]
 have run:∀ (a:Act) (w j:World) (y:Value),(Builtin.append_ #[t,p] o.type #[a.eval s,a.eval x]).run C.P w=.ok y j->(execOp a.eval o).run C.P w=.ok (.value y) j:=fun a w j y hr=>by
  simp only [execOp,ho,resolve,hc,aa,ad,invoke,builtin];simp_all
 unfold yS at h;split at h
 ·rename_i L;obtain⟨R,H⟩:=h;refine zQ.of_value fun a w I d=>?_;obtain⟨J,news,N,O,M⟩:=src w I _ d.2 (d.ev x);have rs:=d.ev s;rw [L] at rs;simp only [V.rep] at rs;have W:=d.2.addNil k h0 e;obtain⟨n,j,q,g1,D,F,G⟩:=KP (ty:=o.type) W hu U T X Q Y (r:=⟨.slice none 0 0,k,e⟩) (rs:=S.rows) rfl rfl rfl (es:=[]) (by
   simp only [V.rep];simp) J N O M (by simp_all)
  refine⟨n,j,_,q,run a w j n (by simp_all),⟨(d.1.mono F).put o.dst (qz hd) G,kS.put (S:=S.addRow ⟨n,k,e⟩) D _ _⟩,H n⟩
 ·rename_i y k' es L;obtain⟨rfl,h⟩:=h;obtain⟨r,rs,⟨⟨ac,ab,R⟩,H⟩,ag,hp⟩:=J9 h;refine zQ.of_value fun a w I d=>?_;obtain⟨J,news,N,O,M⟩:=src w I _ d.2 (d.ev x);have P:=d.ev s;rw [L] at P;have af:a.eval s=y:=by
   have:=P;simp only [V.rep] at this;exact this.1 y rfl
  rw [af] at P;have W:=d.2.perm hp;obtain⟨n,j,q,g1,D,F,G⟩:=KP (ty:=o.type) W hu U T X Q Y (r:=r) (rs:=rs) rfl ac ab (es:=es) (by simp_all) J N O M R;refine⟨n,j,_,q,run a w j n (by simp_all),⟨(d.1.mono F).put o.dst (qz hd) G,kS.put (S:=({ S with rows:=⟨n,k',e⟩::rs }:St)) D _ _⟩,H n⟩
 simp_all
theorem WO {C S} (u:o.op=.call c) (hc:c.callee=.builtin .append) (d:c.args.toList=[s,x]) (w:c.argTypes.toList=[t,t]) (hd:zH C.N o=true)
  (h:zY C.P S o.dst t (VL.ev S.σ s) (VL.ev S.σ x) K):zQ C S o K:=by
 unfold zY at h;split at h
 ·rename_i e hu;split at h
  ·rename_i k D z q n y;obtain⟨⟨a,j,A⟩,h⟩:=h;obtain⟨F,h,p⟩:=Kj h;exact UQ u hc d w hd hu q n y a j A (qi5 hu p) h
  simp_all
 simp_all
def VB (P:Program) (S:St) (d:Option Nat) (t j:TypeId) (h:V) (b:ByteArray) (K:St->Prop):Prop :=
 match P.underlying t with
 | some (.slice e)=>match zK P e,QN P e,kG P e with
  | some k,some a,some z=>(P.underlying j=some .string/\k=1/\0 < a/\z.length=k)/\yS S d k a e h (qbw b) K
  | _,_,_=>False
 | _=>False
theorem qpi {C S} {a:TypeId} {b:ByteArray} (q:o.op=.call c) (hc:c.callee=.builtin .append) (d:c.args.toList=[s,x]) (w:c.argTypes.toList=[t,a]) (hd:zH C.N o=true) (y:VL.ev S.σ x=.lit (.string b))
  (h:VB C.P S o.dst t a (VL.ev S.σ s) b K):zQ C S o K:=by
 unfold VB at h;split at h
 ·rename_i e hu;split at h
  ·rename_i k F z p n A;obtain⟨⟨u,rfl,j,D⟩,h⟩:=h;exact UQ q hc d w hd hu p n A (by decide) j D (by rw [y];exact qpj u) h
  simp_all
 simp_all
def VH (P:Program) (l:Nat) (xs:Array Value) (w:World) (R:Ending->World->Prop):Prop :=
 ∃ fn tmps assign body,(Instr.yield l xs).run P w=.ok (.round l fn tmps assign body) w/\RoundIn Fence.wide 0 P l fn tmps assign body w R
theorem VH.mono {P:Program} {l:Nat} {xs:Array Value} {w:World} {R a:Ending->World->Prop} (h:VH P l xs w R) (k:∀ e d,R e d->a e d):VH P l xs w a:=by
 obtain⟨fn,tmps,assign,body,n,j⟩:=h;exact⟨fn,tmps,assign,body,n,j.mono k⟩
def Q3 (P:Program) (l:Nat) (args:List V) (d:Bx) (Q:V->Bx->List Row->Prop):Prop :=
 ∀ w I n,V.reps w I args n->wX w I d [] ->
  VH P l n.toArray w fun e k=>∃ x v h j a,e=.returned x/\V.rep k a v x/\qV (fun b=>b < w.heap.size/\b ∉ d.map (·.1)) w I k a /\
   wX k a h j/\(∀ b ∈ qL h j,¬ (b < w.heap.size/\b ∉ d.map (·.1)))/\Q v h j
def qib (P:Program) (S:St) (g:FuncId) (e:List V) (v:V):Prop :=
 ∀ w I d,wX w I S.boxes S.rows->V.reps w I e d->∃ x a,(callFunc g d.toArray).run P w=.ok (.value x) a/\(a=w∨a=w.drew)/\V.rep a I v x
def yE (P:Program) (S:St) (d:Option Nat) (f:V) (args:List V) (K:St->Prop):Prop :=
 match f with
 | .lit (.func (.func g) first cap)=>match zg P g with
  | true=>∃ e a,S.boxes.Perm (e++a)/\Ok P g (first.toList.map .lit++args++cap.toList.map .lit) e
   fun v h j=>((h++a).map (·.1)).Nodup->K (({ S with boxes:=h++a,rows:=j++S.rows }:St).put d v)
  | false=>∃ v,qib P S g (first.toList.map .lit++args++cap.toList.map .lit) v/\K (S.put d v)
 | .lit (.func (.yield l) first _)=>∃ e a,S.boxes.Perm (e++a)/\Q3 P l (first.toList.map .lit++args) e
   fun v h j=>((h++a).map (·.1)).Nodup->K (({ S with boxes:=h++a,rows:=j++S.rows }:St).put d v)
 | .fn g vs=>zg P g=true/\∃ e a,S.boxes.Perm (e++a)/\Ok P g (vs++args) e
   fun v h j=>((h++a).map (·.1)).Nodup->K (({ S with boxes:=h++a,rows:=j++S.rows }:St).put d v)
 | _=>False
theorem wX.perm {w I bs bs' rows} (h:wX w I bs rows) (a:bs.Perm bs'):wX w I bs' rows :=
 ⟨fun p d=>h.bx p (a.mem_iff.2 d),h.rw,(qOl _ (a.map _)).nodup_iff.1 h.nodup,h.inn,h.glob⟩
theorem wX.some {w I bs lf rows} (a:wX w I (bs++lf) rows):wX w I bs []:=by
 have e:(bs.map (·.1)).Nodup:=by
  have d:=(w4.1 a.nodup).1;rw [k8] at d;exact(w4.1 d).1
 exact⟨fun p h=>a.bx p (z6.2 (.inl h)),by simp,by simpa [qL] using e,a.inn,a.glob⟩
variable {Q:V->Bx->List Row->Prop}
theorem Ok.post {C S w I} {G lf:Bx} {e:Ending} {F:World} (j:kS C S w I) (K:S.boxes.Perm (G++lf))
  (h:∃ x v d k n,e=.returned x/\V.rep F n v x/\qV (fun b=>b < w.heap.size/\b ∉ G.map (·.1)) w I F n/\wX F n d k/\(∀ b ∈ qL d k,¬ (b < w.heap.size/\b ∉ G.map (·.1)))/\Q v d k) :
  ∃ x v d k n,e=.returned x/\V.rep F n v x/\zf w I F n/\kS C { S with boxes:=d++lf,rows:=k++S.rows } F n/\Q v d k:=by
 have y:=j.heap.perm K;obtain⟨x,v,d,k,n,U,X,H,D,N,R⟩:=h;refine⟨x,v,d,k,n,U,X,H.stays,?_,R⟩;have M:∀ b ∈ qL lf S.rows,b < w.heap.size/\b ∉ G.map (·.1):=fun b a=>by
  have J:=y.nodup;simp only [qL,k8,jm] at J;have:=w4.1 J;refine⟨y.lt b ?_,fun z=>this.2.2 b z b (by assumption) rfl⟩;simp only [qL,k8,jm];exact z6.2 (.inr (by assumption))
 have P:wX w I lf S.rows:=by
  refine⟨fun p u=>y.bx p (z6.2 (.inr u)),y.rw,?_,y.inn,y.glob⟩;have J:=y.nodup;simp only [qL,k8,jm] at J;exact(w4.1 J).2.1
 have L:=P.step H.stays (fun b a=>H.block b (M b a)) (fun b a o=>H.old b o (M b a)) D.inn;have O:(qL (d++lf) (k++S.rows)).Perm (qL d k++qL lf S.rows):=by
  simp only [qL,k8,List.filterMap_append,jm];refine qN9 _ ?_;rw [<-jm,<-jm];exact qOl _ x8
 refine⟨⟨fun p u=>?_,fun r W=>?_,?_,D.inn,D.glob⟩,fun b a A=>?_,?_,j.lo⟩
 ·rcases z6.1 u with q | q
  ·exact D.bx p q
  ·exact L.bx p q
 ·rcases z6.1 W with q | q
  ·exact D.rw r q
  ·exact L.rw r q
 ·exact O.nodup_iff.2 (w4.2 ⟨D.nodup,L.nodup,fun b a c T e=>N b a (e▸M c T)⟩)
 ·have z:b < w.heap.size/\b ∉ G.map (·.1):=by
   refine⟨qMn (j.lo b A) j.keeps.size,fun z=>?_⟩;refine j.mine b ?_ A;refine z6.2 (.inl ?_);obtain⟨p,u,rfl⟩:=x9.1 z;exact x9.2 ⟨p,K.mem_iff.2 (z6.2 (.inl u)),rfl⟩
  rcases z6.1 (O.mem_iff.1 a) with a | a
  ·exact N b a z
  ·refine j.mine b ?_ A;simp only [qL,z6] at a ⊢;refine a.imp (fun q=>?_) id;obtain⟨p,u,rfl⟩:=x9.1 q;exact x9.2 ⟨p,K.mem_iff.2 (z6.2 (.inr u)),rfl⟩
 ·refine j.keeps.trans (H.mono fun b A=>⟨qMn (j.lo b A) j.keeps.size,fun z=>?_⟩);refine j.mine b (z6.2 (.inl ?_)) A;obtain⟨p,u,rfl⟩:=x9.1 z;exact x9.2 ⟨p,K.mem_iff.2 (z6.2 (.inl u)),rfl⟩
theorem Ok.apply {C S w I} {g:FuncId} {args:List V} {xs:List Value} {j lf:Bx} (h:Ok C.P g args j Q) (n:kS C S w I) (o:S.boxes.Perm (j++lf)) (q:V.reps w I args xs) :
  Calls C.P g xs.toArray w fun e d=>∃ x v k p a,e=.returned x/\V.rep d a v x/\zf w I d a/\kS C { S with boxes:=k++lf,rows:=p++S.rows } d a/\Q v k p :=
 (h w I xs q (n.heap.perm o).some).mono fun _ _ u=>Ok.post n o u
theorem Q3.apply {C S w I} {l:Nat} {args:List V} {xs:List Value} {j lf:Bx} (h:Q3 C.P l args j Q) (n:kS C S w I) (o:S.boxes.Perm (j++lf)) (q:V.reps w I args xs) :
  VH C.P l xs.toArray w fun e d=>∃ x v k p a,e=.returned x/\V.rep d a v x/\zf w I d a/\kS C { S with boxes:=k++lf,rows:=p++S.rows } d a/\Q v k p :=
 (h w I xs q (n.heap.perm o).some).mono fun _ _ u=>Ok.post n o u
theorem qjm {C:Ctx} {n l:Nat} {f:FuncId} {tmps:Array Value} {assign body:Code} {w:World} {R:Ending->World->Prop} (h:RoundIn Fence.wide n C.P l f tmps assign body w R):RoundIn C.fe n C.P l f tmps assign body w R:=by
 unfold Ctx.fe;split
 ·exact h
 ·exact h
theorem qpg {C S} {f:Operand} (M:o.op=.call c) (hc:c.callee=.value f) (hd:zH C.N o=true) (h:yE C.P S o.dst (VL.ev S.σ f) (c.args.toList.map (VL.ev S.σ)) K):zQ C S o K:=by
 unfold yE at h;split at h
 ·rename_i g first cap F
  intro a w I j Q;have k:=j.ev f;rw [F] at k;simp only [V.rep] at k;split at h
  case h_2 =>
   obtain⟨v,z,q⟩:=h;have u:=qC (qC (xg (w:=w) (I:=I) first.toList) (j.evs c.args.toList)) (xg cap.toList);obtain⟨x,L,p,hw,Z⟩:=z w I _ j.2.heap u;have e:(first.toList++c.args.toList.map a.eval++cap.toList).toArray=first++c.args.map a.eval++cap:=by
    apply qMc;simp
   rw [e] at p;have y:(execOp a.eval o).run C.P w=.ok (.value x) L:=by
    simp only [execOp,M,resolve,hc,k,Deferred.ofValue];simp only [Sem.run_bind,Sem.run_pure,Result.andThen_ok,invoke,p]
   have T:Γ C S a L I:=by
    rcases hw with rfl | rfl
    ·omega
    ·exact⟨j.1.mono (qV.drew (fun _=>True) w I).stays,j.2.quiet (fun _=>True) (fun _ _=>trivial) (qV.drew _ w I) j.2.heap.inn⟩
   unfold Oper.wpIn;refine⟨fun f _=>C.fe_fn f,?_⟩;rw [vw y (fun d e=>by cases e)];exact⟨_,I,⟨T.1.put o.dst (qz hd) Z,T.2.put _ _⟩,q⟩
  rename_i N;obtain⟨O,U,G,h⟩:=h;have y:(execOp a.eval o).run C.P w=.ok (.enter g (first++c.args.map a.eval++cap)) w:=by
   simp only [execOp,M];exact Wc hc k N
  have u:=qC (qC (xg (w:=w) (I:=I) first.toList) (j.evs c.args.toList)) (xg cap.toList);have e:(first.toList++c.args.toList.map a.eval++cap.toList).toArray=first++c.args.map a.eval++cap:=by
   apply qMc;simp
  have H:=h.apply j.2 G u;rw [e] at H;unfold Oper.wpIn;refine⟨fun f _=>C.fe_fn f,?_⟩;rw [vw y (fun d e=>by cases e)];simp only [Oper.uponIn];refine⟨fun hd=>absurd hd (by rw [C.fe_depth];decide),ya (H.mono fun R L p=>?_)⟩;obtain⟨x,v,P,W,A,D,z,J,n,q⟩:=p;subst D;exact⟨_,A,⟨(j.1.mono J).put o.dst (qz hd) z,n.put _ _⟩,q (w4.1 n.heap.nodup).1⟩
 ·rename_i l first cap F
  intro a w I j Q;have k:=j.ev f;rw [F] at k;simp only [V.rep] at k;obtain⟨O,U,G,h⟩:=h;have u:=qC (xg (w:=w) (I:=I) first.toList) (j.evs c.args.toList);have e:(first.toList++c.args.toList.map a.eval).toArray=first++c.args.map a.eval:=by
   apply qMc;simp
  have H:=h.apply j.2 G u;rw [e] at H;obtain⟨fn,tmps,assign,body,hy,X⟩:=H;have y:(execOp a.eval o).run C.P w=.ok (.round l fn tmps assign body) w:=by
   simp only [execOp,M,resolve,hc,k,Deferred.ofValue];simp only [Sem.run_bind,Sem.run_pure,Result.andThen_ok,invoke,hy]
  unfold Oper.wpIn;refine⟨fun f _=>C.fe_fn f,?_⟩;rw [vw y (fun d e=>by cases e)];simp only [Oper.uponIn];refine⟨fun hd=>absurd hd (by rw [C.fe_depth];decide),qjm (X.mono fun R L p=>?_)⟩;obtain⟨x,v,P,W,A,D,z,J,n,q⟩:=p;subst D;exact⟨_,A,⟨(j.1.mono J).put o.dst (qz hd) z,n.put _ _⟩,q (w4.1 n.heap.nodup).1⟩
 ·rename_i g vs F;intro a w I j Q;have k:=j.ev f;rw [F] at k;simp only [V.rep] at k;obtain⟨first,k,Y⟩:=k;obtain⟨N,O,U,G,h⟩:=h;have y:(execOp a.eval o).run C.P w=.ok (.enter g (first++c.args.map a.eval++#[])) w:=by
   simp only [execOp,M];exact Wc hc k N
  have u:=qC Y (j.evs c.args.toList);have e:(first.toList++c.args.toList.map a.eval).toArray=first++c.args.map a.eval++#[]:=by
   apply qMc;simp
  have H:=h.apply j.2 G u;rw [e] at H;unfold Oper.wpIn;refine⟨fun f _=>C.fe_fn f,?_⟩;rw [vw y (fun d e=>by cases e)];simp only [Oper.uponIn];refine⟨fun hd=>absurd hd (by rw [C.fe_depth];decide),ya (H.mono fun R L p=>?_)⟩;obtain⟨x,v,P,W,A,D,z,J,n,q⟩:=p;subst D;exact⟨_,A,⟨(j.1.mono J).put o.dst (qz hd) z,n.put _ _⟩,q (w4.1 n.heap.nodup).1⟩
 simp_all
def qne (P:Program) (t:TypeId):Bool:=match P.underlying t with | some (.struct _)=>true | _=>false
def YS (P:Program) (S:St) (d:Option Nat) (t:TypeId) (x:V) (K:St->Prop):Prop:=qne P t=true/\match Zo x with | some v=>K (S.put d (.lit (.iface t v))) | none=>False
theorem qi1 {C S} (j:o.op=.makeInterface t x) (hd:zH C.N o=true) (h:YS C.P S o.dst t (VL.ev S.σ x) K):zQ C S o K:=by
 obtain⟨e,h⟩:=h;split at h
 ·rename_i v k;unfold qne at e;split at e
  ·rename_i n hu;refine zQ.of_value fun a w I d=>?_;have rx:=j5 k (d.ev x);refine⟨.iface t v,w,_,I,?_,⟨d.1.put o.dst (qz hd) (v:=.lit (.iface t v)) (by rfl),d.2.put _ _⟩,h⟩;simp only [execOp,j,rx,Instr.makeInterface,Sem.run_bind,run_underlying hu,Result.andThen_ok,Sem.run_pure]
  simp_all
 simp_all
def qf1 (P:Program) (S:St) (d:Option Nat) (r:V) (name:String) (args:List V) (K:St->Prop):Prop :=
 match r with
 | .lit (.iface t v)=>∃ g u,(∀ w,(Go.method (P.types.size+Made.depth) t v name).run P w=.ok (g,u) w)/\zg P g=true/\yE P S d (.lit (.func (.func g) #[] #[])) (KY u::args) K
 | _=>False
theorem qek {C S} {r:Operand} {name:String} (G:o.op=.call c) (hc:c.callee=.invoke r name) (hd:zH C.N o=true) (h:qf1 C.P S o.dst (VL.ev S.σ r) name (c.args.toList.map (VL.ev S.σ)) K):zQ C S o K:=by
 unfold qf1 at h;split at h
 ·rename_i t v L;obtain⟨g,u,F,n,h⟩:=h;unfold yE at h;simp only [n] at h;obtain⟨T,X,J,h⟩:=h;intro a w I j Q;have k:=j.ev r;rw [L] at k;simp only [V.rep] at k;have N:(execOp a.eval o).run C.P w=.ok (.enter g (#[u]++c.args.map a.eval)) w:=by
   simp only [execOp,G,resolve,hc,k];simp only [Sem.run_bind,Sem.run_pure,Result.andThen_ok,invoke];have y:(#[Value.iface t v]++Array.map a.eval c.args)[0]? = some (.iface t v):=by rw [qN8 (show 0 < (#[Value.iface t v]:Array Value).size from Nat.zero_lt_one)];rfl
   have z:(#[Value.iface t v]++Array.map a.eval c.args).extract 1 (#[Value.iface t v]++Array.map a.eval c.args).size=Array.map a.eval c.args:=by
    apply qMc;simp;exact xa (by simp)
   simp only [y,z,callMethod,Sem.run_bind,run_program,Result.andThen_ok,F];exact yW n
  have M:V.reps w I (KY u::c.args.toList.map (VL.ev S.σ)) (u::c.args.toList.map a.eval):=by
   simp only [V.reps];exact⟨XY u,j.evs c.args.toList⟩
  have e:(u::c.args.toList.map a.eval).toArray=#[u]++c.args.map a.eval:=by
   apply qMc;simp
  have H:=h.apply j.2 J (by simpa using M);rw [e] at H;unfold Oper.wpIn;refine⟨fun f _=>C.fe_fn f,?_⟩;rw [vw N (fun d e=>by cases e)];simp only [Oper.uponIn];refine⟨fun hd=>absurd hd (by rw [C.fe_depth];decide),ya (H.mono fun W Z R=>?_)⟩;obtain⟨x,v,U,Y,q,D,P,O,p,A⟩:=R;subst D;exact⟨_,q,⟨(j.1.mono O).put o.dst (qz hd) P,p.put _ _⟩,A (w4.1 p.heap.nodup).1⟩
 simp_all
def xw (P:Program) (S:St) (d:Option Nat) (t e:TypeId) (s x:V) (K:St->Prop):Prop :=
 match s,x with
 | .lit (.slice (some _) _ _),.lit (.int _ _)=>Xm P S d t e s x K
 | .lit (.slice (some _) _ _),x=>ZD P S d t e s x K∨ZF P S d t e s x K
 | .lit (.slice none _ _),x=>(e=t/\zY P S d t s x K)∨ZF P S d t e s x K
 | .list a k es,.lit (.string b)=>VB P S d t e (.list a k es) b K
 | s,x=>e=t/\zY P S d t s x K
def QD (P:Program) (S:St) (d:Option Nat) (t:TypeId) (s:V) (K:St->Prop):Prop :=
 match P.underlying t with
 | some (.slice e)=>match s with
  | .lit (.slice none _ _)=>K (S.put d (.lit (.tuple #[])))
  | .lit (.slice (some ⟨b,o,none⟩) n _)=>(n=0->K (S.put d (.lit (.tuple #[]))))/\(0 < n->match zK P e,kG P e,zF S.boxes b with
   | some k,some z,some a=>z.length=k/\yx (z.map .lit)=true/\o+n * k<=a.length/\K ((S.setBoxes (kZ S.boxes b (a.take o++zC (n * k)++a.drop (o+n * k)))).put d (.lit (.tuple #[])))
   | _,_,_=>False)
  | _=>False
 | _=>False
theorem qi3 {C S} (ho:o.op=.call c) (hc:c.callee=.builtin .clear) (ha:c.args.toList=[s]) (ht:c.argTypes.toList=[t]) (hd:zH C.N o=true)
  (h:QD C.P S o.dst t (VL.ev S.σ s) K):zQ C S o K:=by
 have aa:c.args=#[s]:=by rw [<-qA3 (xs:=c.args),ha]
 have ad:c.argTypes=#[t]:=by rw [<-qA3 (xs:=c.argTypes),ht]
 refine zQ.of_value fun a w I p=>?_;have runs:∀ y q,(Builtin.clear_ #[t] o.type #[a.eval s]).run C.P w=.ok y q->(execOp a.eval o).run C.P w=.ok (.value y) q:=fun y q F=>by
  simp only [execOp,ho,resolve,hc,aa,ad];simp [invoke,builtin,F]
 have j:=p.ev s;have quiet:(Builtin.clear_ #[t] o.type #[a.eval s]).run C.P w=.ok (.tuple #[]) w->K (S.put o.dst (.lit (.tuple #[])))->∃ x q L U,(execOp a.eval o).run C.P w=.ok (.value x) q/\Γ C L (a.put o.dst x) q U/\K L:=fun F D =>
  ⟨_,w,_,I,runs _ _ F,⟨p.1.put o.dst (qz hd) (by rfl),p.2.put _ _⟩,D⟩
 unfold QD at h;split at h
 ·rename_i e hu;split at h
  ·rename_i n W G;rw [G] at j;simp only [V.rep] at j;refine quiet ?_ h;rw [j];simp [Builtin.clear_,run_underlying hu]
  ·rename_i b off n W G;rw [G] at j;simp only [V.rep] at j;obtain⟨X,Y⟩:=h;cases n with
   | zero =>
    refine quiet ?_ (X rfl);rw [j];simp [Builtin.clear_,run_underlying hu]
   | succ m =>
    have h:=Y (qP7 m);split at h
    ·rename_i k z A hk hz hb;obtain⟨af,ac,ah,D⟩:=h;obtain⟨v,H,Q⟩:=X8 (w:=w) hz;have M:=xq hb;obtain⟨arr,te,R,T,J,q4⟩:=p.2.heap.bx _ M;have ag:arr.size=A.length:=by have:=qM J;simpa using this
     have ae:v.cells.size=k:=by have:=congrArg List.length Q;simpa [af] using this
     have N:(Builtin.zeroCells v.cells (m+1)).toList.length=(m+1) * k:=by simp [Builtin.zeroCells,ae]
     have ab:∀ u ∈ (Builtin.zeroCells v.cells (m+1)).toList,one u:=fun u d=>Kh ac u (by rw [<-Q];exact yk d);have O:=run_storeCells_at (P:=C.P) b off te (Builtin.zeroCells v.cells (m+1)).toList 0 arr w R (by omega) (fun v H=>vl (ab v H));simp only [Nat.add_zero,N] at O;obtain⟨hW,Z⟩:=p.2.write (ds:=A.take off++zC ((m+1) * k)++A.drop (off+(m+1) * k)) (arr':=(arr.toList.take off++(Builtin.zeroCells v.cells (m+1)).toList++arr.toList.drop (off+(m+1) * k)).toArray) (x9.2 ⟨_,M,rfl⟩) R
      (fun u d=>by
       simp only [z6] at d;rcases d with(d | d) | d
       ·exact T u (qAq d)
       ·simp_all
       ·exact T u (qEu d))
      (qC (qC (xD _ J) (uR N)) (xt _ J))
     refine⟨.tuple #[],_,_,I,runs _ _ ?_,⟨(p.1.mono Z).put o.dst (qz hd) (by rfl),hW.put _ _⟩,D⟩;rw [j];simp only [Builtin.clear_,qPa,List.getElem?_cons_zero,Sem.run_bind,run_underlying hu,Result.andThen_ok,H,O,Sem.run_pure]
    simp_all
  simp_all
 simp_all
def wL (P:Program) (S:St) (d:Option Nat) (t:TypeId) (n:Nat) (parts:List (Nat × V)) (K:St->Prop):Prop :=
 match n,parts with
 | 0,[]=>ze P S d t 0 [] K∨xd P S d t (.lit (.int .i64 0)) (.lit (.int .i64 0)) K
 | n,parts=>ze P S d t n parts K
theorem qem {C S} {parts:Array (Nat × Operand)} (A:o.op=.buildSlice t 0 parts) (D:parts.toList.map (fun p=>(p.1,VL.ev S.σ p.2))=[]) (hd:zH C.N o=true)
  (h:xd C.P S o.dst t (.lit (.int .i64 0)) (.lit (.int .i64 0)) K):zQ C S o K:=by
 have F:parts=#[]:=by
  have:=congrArg List.length D;simpa using this
 subst F;unfold xd at h;split at h
 ·rename_i e W X U H hu y u;cases y;cases u;split at h
  ·rename_i k G z d M R;obtain⟨T,O,Q,J,P,L,N,q⟩:=h;refine zQ.of_value fun a w I j=>?_;refine⟨_,_,_,I,?_,j.boxedS o.dst (qz hd) #[] ⟨e,qbs d⟩ [] 0 0 ?_ ?_,q _ j.2.fresh⟩
   ·simp only [execOp,A,Instr.buildSlice,newRow];have n:(Array.map (fun x:Nat × Operand=>(x.1,a.eval x.2)) #[]).toList=[]:=by simp
    have f1:Instr.fill (fun i=>some (i * k,k)) (Array.map (fun x=>(#[]:Array Value)[x % (#[]:Array Value).size]!) (Array.range 0)) []=some #[]:=by
     rw [Array.range_zero',qPp];rfl
    simp only [Sem.run_bind,run_underlying hu,Result.andThen_ok,xm d,qRr,show ¬ (0 > 2 ^ 24) from by omega,if_false,if_true,n,f1,run_newObj,Sem.run_pure,World.alloc_eq]
   ·simp
   ·simp [V.reps]
  simp_all
 simp_all
def qcu:Bx->Nat->Option Nat
 | [],_=>none
 | (b,x)::r,y=>if y=b then (match x with | .m _ es _=>some es.length | _=>none) else qcu r y
theorem qf8:∀ {a:Bx} {x n:Nat},qcu a x=some n->∃ ks es cl,(x,.m ks es cl) ∈ a/\es.length=n
 | [],_,_,h=>by cases h
 | (b,y)::r,x,n,h=>by
  unfold qcu at h;split at h
  ·rename_i e;subst e;split at h
   ·rename_i ks es cl;exact⟨ks,es,cl,x6,KL h⟩
   ·cases h
  ·obtain⟨ks,es,cl,d,j⟩:=qf8 h;exact⟨ks,es,cl,z8 _ d,j⟩
def Js (S:St) (v:V) (k:V->Prop):Prop :=
 match v with
 | .lit (.map (some b))=>match qcu S.boxes b with
  | some n=>k (.lit (.int .i64 n))
  | none=>False
 | _=>False
def qCn (P:Program) (t:TypeId):Bool:=match P.underlying t with | some (.map _ _)=>true | _=>false
def Uk (P:Program) (S:St) (t:TypeId) (v:V) (k:V->Prop):Prop:=if qCn P t=true then Js S v k else lenK P t v k
theorem qu8 {C S} (D:o.op=.call c) (hc:c.callee=.builtin .len) (q:c.args.toList=[x]) (G:c.argTypes.toList=[t]) (hd:zH C.N o=true) (e:qCn C.P t=true) (h:Js S (VL.ev S.σ x) fun v=>K (S.put o.dst v)):zQ C S o K:=by
 have u:c.args=#[x]:=by rw [<-qA3 (xs:=c.args),q]
 have H:c.argTypes=#[t]:=by rw [<-qA3 (xs:=c.argTypes),G]
 unfold Js at h;split at h
 ·rename_i b J;split at h
  ·rename_i n A;obtain⟨M,es,L,z,y⟩:=qf8 A;unfold qCn at e;split at e
   ·rename_i N O hu;refine zQ.of_value fun a w I d=>?_;have r:=d.ev x;rw [J] at r;simp only [V.rep] at r;obtain⟨arr,j,k,_⟩:=MapAt.all (d.2.heap.bx _ z);have F:arr.size=n:=by rw [<-y,<-@zz _ _ es fun p=>p.1,<-k];simp
    refine⟨.int .i64 n,w,_,I,?_,⟨d.1.put o.dst (qz hd) (v:=.lit (.int .i64 n)) (by rfl),d.2.put _ _⟩,h⟩;simp only [execOp,D,resolve,hc,u,H];simp [invoke,builtin,Builtin.len_,r,run_underlying hu,MapKept.run_getObj_map j,F,goInt]
   simp_all
  simp_all
 simp_all
def aOp (P:Program) (S:St) (o:Oper) (K:St->Prop):Prop :=
 match o.op with
 | .alloc t=>ja P S o.dst t K
 | .box t x=>ZB S o.dst t (ev S.σ x) K
 | .fieldAddr s x f=>fieldAddrK P S.boxes s f (ev S.σ x) fun v=>K (S.put o.dst v)
 | .store t p x=>wm P S o.dst t (ev S.σ p) (ev S.σ x) K
 | .buildSlice t n parts=>wL P S o.dst t n (parts.toList.map fun p=>(p.1,ev S.σ p.2)) K
 | .makeSlice t l c=>xd P S o.dst t (ev S.σ l) (ev S.σ c) K
 | .makeMap t r=>jM P S o.dst t (r.map (ev S.σ)) K
 | .lookup t x k ok=>Xj P S t (ev S.σ x) (ev S.σ k) ok fun v=>K (S.put o.dst v)
 | .mapUpdate t x k v=>J5 P S o.dst t (ev S.σ x) (ev S.σ k) (ev S.σ v) K
 | .insert t x k v=>J5 P S o.dst t (ev S.σ x) (ev S.σ k) (ev S.σ v) K
 | .mapEntry t x k=>Kq P S o.dst t (ev S.σ x) (ev S.σ k) K
 | .makeInterface t x=>YS P S o.dst t (ev S.σ x) K
 | .entryStore _ x s v=>Uo S o.dst (ev S.σ x) (ev S.σ s) (ev S.σ v) K
 | .range t x=>Qm P S o.dst t (ev S.σ x) K
 | .next x false=>Xi S o.dst (ev S.σ x) K
 | .entry x=>vN S (ev S.σ x) fun v=>K (S.put o.dst v)
 | .convert s t x=>Zw P S s t (ev S.σ x) fun v=>K (S.put o.dst v)
 | .call c=>match c.callee with
  | .builtin .append=>match c.args.toList,c.argTypes.toList with
   | [s,x],[t,t']=>xw P S o.dst t t' (ev S.σ s) (ev S.σ x) K
   | _,_=>False
  | .builtin .copy=>match c.args.toList,c.argTypes.toList with
   | [s,x],[t,t']=>vQ P S o.dst t t' (ev S.σ s) (ev S.σ x) K
   | _,_=>False
  | .builtin .clear=>match c.args.toList,c.argTypes.toList with
   | [s],[t]=>QD P S o.dst t (ev S.σ s) K
   | _,_=>False
  | .builtin .delete=>match c.args.toList,c.argTypes.toList with
   | [x,k],[t,_]=>qc9 P S o.dst t (ev S.σ x) (ev S.σ k) K
   | _,_=>False
  | .builtin .len=>match c.args.toList,c.argTypes.toList with
   | [x],[t]=>Uk P S t (ev S.σ x) fun v=>K (S.put o.dst v)
   | _,_=>False
  | .value f=>yE P S o.dst (ev S.σ f) (c.args.toList.map (ev S.σ)) K
  | .invoke r name=>qf1 P S o.dst (ev S.σ r) name (c.args.toList.map (ev S.σ)) K
  | _=>detG P S o fun v=>K (S.put o.dst v)
 | _=>detG P S o fun v=>K (S.put o.dst v)
theorem VG {C S} (hd:zH C.N o=true) (h:aOp C.P S o K):zQ C S o K:=by
 have det:(detG C.P S o fun v=>K (S.put o.dst v))->zQ C S o K:=fun h=>by
  obtain⟨v,p,n⟩:=Wz h;exact zQ.det hd p n
 unfold aOp at h;split at h
 ·rename_i a;exact qi4 a hd h
 ·rename_i a;exact qu9 a hd h
 ·rename_i a;obtain⟨v,p,n⟩:=Xl a (fun _ _ h=>h) h;exact zQ.det hd p n
 ·rename_i a;exact qiz a hd h
 ·rename_i a;unfold wL at h;split at h
  ·rename_i u;rcases h with h | h
   ·exact QO a hd (by simp_all)
   ·exact qem a u hd h
  ·exact QO a hd h
 ·rename_i a;exact Yh a hd h
 ·rename_i a;exact qbx a hd h
 ·rename_i a;exact qej a hd h
 ·rename_i a;exact Zd (.inl a) hd h
 ·rename_i a;exact Zd (.inr a) hd h
 ·rename_i a;exact V2 a hd h
 ·rename_i a;exact qi1 a hd h
 ·rename_i a;exact Jk a hd h
 ·rename_i a;exact qi0 a hd h
 ·rename_i a;exact qpe a hd h
 ·rename_i a;exact qi2 a hd h
 ·rename_i a;exact qby a hd h
 ·rename_i a;split at h
  ·rename_i e;split at h
   ·rename_i j k;unfold xw at h;split at h
    ·exact qph a e j k hd (by omega)
    ·rcases h with h | h
     ·exact UP a e j k hd (by omega)
     ·exact UR a e j k hd (by omega)
    ·rcases h with⟨rfl,h⟩ | h
     ·exact WO a e j k hd (by omega)
     ·exact UR a e j k hd (by omega)
    ·rename_i w;exact qpi a e j k hd w (by simp_all)
    ·obtain⟨rfl,h⟩:=h;exact WO a e j k hd h
   simp_all
  ·rename_i e;split at h
   ·rename_i j k;exact qpf a e j k hd h
   simp_all
  ·rename_i e;split at h
   ·rename_i j k;exact qi3 a e j k hd h
   simp_all
  ·rename_i e;split at h
   ·rename_i j k;exact qel a e j k hd h
   simp_all
  ·rename_i e;split at h
   ·rename_i j k;unfold Uk at h;split at h
    ·rename_i q;exact qu8 a e j k hd q h
    ·refine det ?_;obtain⟨d,op,z,pos,x,y⟩:=o;simp only at a;subst a;simp only [detG,detF,e,j,k];exact h
   simp_all
  ·rename_i e;exact qpg a e hd h
  ·rename_i e;exact qek a e hd h
  simp_all
 simp_all
def Xb (P:Program) (ops:Array Oper) (K:St->Prop):List Oper->St->Prop
 | [],S=>K S
 | o::rest,S=>match xM ops S.σ o with
  | some true=>aOp P S o fun S'=>Xb P ops K rest S'
  | some false=>Xb P ops K rest (S.put o.dst QP)
  | none=>False
theorem ZX {C:Ctx} {ops:Array Oper} {K:St->Prop} {Q:Exit->Act->World->Prop} (d:∀ S a w I,Γ C S a w I->K S->Q .normal a w):∀ (l:List Oper) (S:St) (a:Act) (w:World) (I:Cells),(∀ o ∈ l,zH C.N o=true)->Γ C S a w I->Xb C.P ops K l S->wpListIn C.fe 0 C.P ops Q l a w
 | [],S,a,w,I,_,hΓ,h=>d S a w I hΓ h
 | o::rest,S,a,w,I,hdl,hΓ,h=>by
  simp only [Xb] at h;have hd:=hdl o x6;have j:=fun y u=>hdl y (z8 _ u);unfold wpListIn;split at h
  ·rename_i e;rw [if_pos (wv hΓ e)];refine Oper.wpIn_mono (fun p z ⟨n,k,x,q⟩=>?_) (VG hd h a w I hΓ Q);exact ZX d rest n p z k j x q
  ·rename_i e;rw [if_neg (by rw [wv hΓ e];simp)];exact⟨fun f _=>C.fe_fn f,ZX d rest _ _ w I j ⟨hΓ.1.put o.dst (qz hd) (by rfl),hΓ.2.put _ _⟩ h⟩
  simp_all
variable {α:Type}
def zl (X:(α->Prop)->Prop):Prop:=∀ K,X K->∃ a,K a/\∀ d:α->Prop,d a->X d
theorem zl.pure (a:α):zl fun K=>K a:=fun _ h=>⟨a,h,fun _ h=>h⟩
theorem zl.no:zl (α:=α) fun _=>False:=fun _ h=>h.elim
theorem zl.comp {u:Type} {X:(α->Prop)->Prop} {Y:α->(u->Prop)->Prop} (e:zl X) (j:∀ a,zl (Y a)):zl fun K=>X fun a=>Y a K:=fun K h=>by
 obtain⟨a,k,p⟩:=e _ h;obtain⟨b,n,q⟩:=j a K k;exact⟨b,n,fun d o=>p _ (q d o)⟩
theorem zl.and {X:(α->Prop)->Prop} (A:Prop) (h:zl X):zl fun K=>A/\X K:=fun K d=>by
 obtain⟨a,j,n⟩:=h K d.2;exact⟨a,j,fun e k=>⟨d.1,n e k⟩⟩
theorem zl.onL {v:V} {n:Nat} {α:Type} {Y:List (List V)->(α->Prop)->Prop} (d:∀ a,zl (Y a)):zl fun K=>onL v n fun es=>Y es K:=by
 unfold VL.onL;split
 ·exact zl.and _ (d _)
 ·exact d _
 ·exact zl.no
theorem zl.onS {v:V} {n:Nat} {α:Type} {Y:List (List V)->(α->Prop)->Prop} {Z:Nat->Nat->Nat->Nat->(α->Prop)->Prop} (d:∀ a,zl (Y a)) (e:∀ b o l c,zl (Z b o l c)):zl fun K=>onS v n (fun es=>Y es K) fun b o l c=>Z b o l c K:=by
 unfold VL.onS;split
 ·simp_all
 ·exact zl.onL d
theorem zl.bnd {x:Option V} {d:Nat} {α:Type} {Y:Nat->(α->Prop)->Prop} (e:∀ a,zl (Y a)):zl fun K=>bnd x d fun n=>Y n K:=by
 unfold VL.bnd;split
 ·exact e _
 ·exact zl.and _ (e _)
 ·exact zl.no
theorem zl.shiftP {v:V} {off:Nat}:zl (shiftP v off):=by
 unfold VL.shiftP;split
 ·exact zl.pure _
 ·exact zl.pure _
 ·exact zl.no
theorem zl.atP {S:St} {v:V}:zl (atP S v):=by
 unfold VL.atP;split
 ·exact zl.pure _
 ·split
  ·exact zl.pure _
  ·exact zl.no
 ·exact zl.no
theorem zl.nilK {v:V}:zl (nilK v):=by
 unfold VL.nilK;split
 ·exact zl.pure _
 ·exact zl.pure _
 ·exact zl.pure _
 ·exact zl.no
section
variable {P:Program}
theorem zl.loadK {t:TypeId} {cs:List V}:zl (loadK P t cs):=by
 unfold VL.loadK
 repeat' split
 all_goals first | exact zl.pure _ | exact zl.and _ (zl.pure _) | exact zl.no
theorem zl.partK {t:TypeId} {cs:List V} {off:Nat}:zl (partK P t cs off):=by
 unfold VL.partK
 repeat' split
 all_goals first | exact zl.pure _ | exact zl.no
theorem zl.fieldAddrK {a:Bx} {s:TypeId} {f:Nat} {v:V}:zl (fieldAddrK P a s f v):=by
 unfold VL.fieldAddrK VL.zeroP
 repeat' split
 all_goals first | exact zl.shiftP | exact zl.no | exact zl.and _ (zl.pure _)
theorem zl.fieldK {s:TypeId} {f:Nat} {v:V}:zl (fieldK P s f v):=by
 unfold VL.fieldK
 repeat' split
 all_goals first | exact zl.partK | exact zl.no
theorem zl.idxAddrK {t:TypeId} {v i:V}:zl (idxAddrK P t v i):=by
 unfold VL.idxAddrK
 repeat' split
 all_goals first | exact zl.no | exact zl.onS (fun _=>zl.and _ (zl.and _ (zl.pure _))) (fun _ _ _ _=>zl.and _ (zl.and _ (zl.pure _))) | exact zl.and _ (zl.and _ zl.shiftP)
theorem zl.idxK {t:TypeId} {v i:V}:zl (idxK P t v i):=by
 unfold VL.idxK
 repeat' split
 all_goals first | exact zl.no | exact zl.and _ (zl.and _ (zl.pure _)) | exact zl.and _ (zl.and _ zl.partK)
theorem zl.binK {op:BinOp} {t:TypeId} {x y:V}:zl (binK P op t x y):=by
 unfold VL.binK;split
 ·rintro K ⟨e,v,a,d,j⟩;exact⟨_,j,fun k h=>⟨e,v,a,d,h⟩⟩
 ·rintro K ⟨n,e,v,a,d,j⟩;exact⟨_,j,fun k h=>⟨n,e,v,a,d,h⟩⟩
 ·rintro K ⟨v,a,d,j⟩;exact⟨_,j,fun k h=>⟨v,a,d,h⟩⟩
 ·rintro K ⟨p,e,v,a,d,j⟩;exact⟨_,j,fun k h=>⟨p,e,v,a,d,h⟩⟩
 ·rintro K ⟨v,a,d⟩;exact⟨_,d,fun k h=>⟨v,a,h⟩⟩
 ·rintro K ⟨l,m,b,a,d,j,o⟩;exact⟨_,o,fun k h=>⟨l,m,b,a,d,j,h⟩⟩
 ·exact zl.no
theorem zl.convK {s d:TypeId} {v:V}:zl (convK P s d v):=by
 unfold VL.convK
 repeat' split
 all_goals first | exact zl.pure _ | exact zl.no
theorem zl.lenK {t:TypeId} {v:V}:zl (lenK P t v):=by
 unfold VL.lenK
 repeat' split
 all_goals first | exact zl.pure _ | exact zl.no | exact zl.onS (fun _=>zl.pure _) (fun _ _ _ _=>zl.pure _)
theorem zl.capK {t:TypeId} {v:V}:zl (capK P t v):=by
 unfold VL.capK
 repeat' split
 all_goals first | exact zl.pure _ | exact zl.no
theorem zl.sliceK {t:TypeId} {v:V} {d a e:Option V}:zl (sliceK P t v d a e):=by
 unfold VL.sliceK
 repeat' split
 all_goals first
  | exact zl.no
  | exact zl.and _ (zl.bnd fun _=>zl.bnd fun _=>zl.and _ (zl.and _ (zl.pure _)))
  | exact zl.bnd fun _=>zl.bnd fun _=>zl.bnd fun _=>zl.and _ (zl.and _ (zl.and _ (zl.and _ (zl.pure _))))
  | exact zl.onS (fun _=>zl.bnd fun _=>zl.bnd fun _=>zl.and _ (zl.and _ (zl.and _ (zl.pure _)))) (fun _ _ _ _=>zl.bnd fun _=>zl.bnd fun _=>zl.bnd fun _=>zl.and _ (zl.and _ (zl.and _ (zl.and _ (zl.pure _)))))
theorem zl.buildK {t:TypeId} {ps:List (Nat × V)}:zl (buildK P t ps):=by
 unfold VL.buildK;split
 ·rintro K ⟨a,d,e⟩;exact⟨_,e,fun j h=>⟨a,d,h⟩⟩
 ·exact zl.no
theorem zl.callK {f:V} {a:List V}:zl (callK P f a):=by
 unfold VL.callK;split
 ·rintro K ⟨d,v,e,h⟩;exact⟨_,h,fun k j=>⟨d,v,e,j⟩⟩
 ·exact zl.no
theorem zl.buildSliceD {t:TypeId} {n:Nat} {ps:List (Nat × V)}:zl (buildSliceD P t n ps):=by
 unfold VL.buildSliceD
 repeat' split
 all_goals first
  | exact zl.no
  | (rintro K ⟨a,d,e,es,h,j,k⟩;exact⟨_,k,fun p o=>⟨a,d,e,es,h,j,o⟩⟩)
theorem zl.detF {S:St} {o:Oper}:zl (detF P S o):=by
 unfold VL.detF;split
 ·exact zl.pure _
 ·exact zl.pure _
 ·split
  ·exact zl.pure _
  ·exact zl.no
 ·exact zl.comp zl.atP fun _=>zl.loadK
 ·exact zl.fieldAddrK
 ·exact zl.fieldK
 ·exact zl.idxAddrK
 ·exact zl.idxK
 ·exact zl.binK
 ·split
  ·rintro K ⟨v,a,d⟩;exact⟨_,d,fun h e=>⟨v,a,e⟩⟩
  ·exact zl.no
 ·exact zl.convK
 ·repeat' split
  all_goals first | exact zl.pure _ | exact zl.no
 ·exact zl.sliceK
 ·exact zl.and _ zl.buildK
 ·unfold Ky
  repeat' split
  all_goals first | exact zl.pure _ | exact zl.no
 ·exact zl.nilK
 ·repeat' split
  all_goals first | exact zl.lenK | exact zl.capK | exact zl.callK | exact zl.pure _ | exact zl.no
 ·exact zl.no
theorem zl.detG {S:St} {o:Oper}:zl (detG P S o):=by
 unfold VL.detG;split
 ·exact zl.buildSliceD
 ·exact zl.detF
variable {α:Type}
def zi (X:(α->Prop)->Prop):Prop:=∀ K,X K->∃ a,∀ d:α->Prop,X d↔d a
theorem zi.pure (a:α):zi fun K=>K a:=fun _ _=>⟨a,fun _=>qRo⟩
theorem zi.no:zi (α:=α) fun _=>False:=fun _ h=>h.elim
theorem zi.and {X:(α->Prop)->Prop} (A:Prop) (h:zi X):zi fun K=>A/\X K:=fun K k=>by
 obtain⟨a,j⟩:=h K k.2;exact⟨a,fun e=>⟨fun d=>(j e).1 d.2,fun d=>⟨k.1,(j e).2 d⟩⟩⟩
theorem zi.onL {v:V} {n:Nat} {α:Type} {Y:List (List V)->(α->Prop)->Prop} (d:∀ a,zi (Y a)):zi fun K=>onL v n fun es=>Y es K:=by
 unfold VL.onL;split
 ·exact zi.and _ (d _)
 ·exact d _
 ·exact zi.no
theorem zi.onS {v:V} {n:Nat} {α:Type} {Y:List (List V)->(α->Prop)->Prop} {Z:Nat->Nat->Nat->Nat->(α->Prop)->Prop} (d:∀ a,zi (Y a)) (e:∀ b o l c,zi (Z b o l c)):zi fun K=>onS v n (fun es=>Y es K) fun b o l c=>Z b o l c K:=by
 unfold VL.onS;split
 ·simp_all
 ·exact zi.onL d
theorem zi.bnd {x:Option V} {d:Nat} {α:Type} {Y:Nat->(α->Prop)->Prop} (e:∀ a,zi (Y a)):zi fun K=>bnd x d fun n=>Y n K:=by
 unfold VL.bnd;split
 ·exact e _
 ·exact zi.and _ (e _)
 ·exact zi.no
theorem zi.sliceK {P:Program} {t:TypeId} {v:V} {d a e:Option V}:zi (sliceK P t v d a e):=by
 unfold VL.sliceK
 repeat' split
 all_goals first
  | exact zi.no
  | exact zi.and _ (zi.bnd fun _=>zi.bnd fun _=>zi.and _ (zi.and _ (zi.pure _)))
  | exact zi.bnd fun _=>zi.bnd fun _=>zi.bnd fun _=>zi.and _ (zi.and _ (zi.and _ (zi.and _ (zi.pure _))))
  | exact zi.onS (fun _=>zi.bnd fun _=>zi.bnd fun _=>zi.and _ (zi.and _ (zi.and _ (zi.pure _)))) (fun _ _ _ _=>zi.bnd fun _=>zi.bnd fun _=>zi.bnd fun _=>zi.and _ (zi.and _ (zi.and _ (zi.and _ (zi.pure _)))))
def WJ (S S':St):Prop:=∀ b a,zF S.boxes b=some a->zF S'.boxes b=some a
theorem qts {S S':St} {v:V} {K:List V->Prop} (hb:WJ S S') (h:atP S v K):atP S' v K:=by
 unfold VL.atP at h ⊢;split at h
 ·exact h
 ·split at h
  ·rename_i e;simp only [hb _ _ e];exact h
  simp_all
 omega
theorem Wj {σ a:Nat->V} {l:List Operand} (h:∀ x ∈ l,ev a x=ev σ x):l.map (ev a)=l.map (ev σ):=qLu h
theorem qjs {σ a:Nat->V} {x:Option Operand} (h:∀ y,x=some y->ev a y=ev σ y):x.map (ev a)=x.map (ev σ):=by
 cases x with
 | none=>rfl
 | some y=>simp_all
theorem qlt {S S':St} {o:Oper} {k:V->Prop} (e:∀ x ∈ o.op.operands.toList,ev S'.σ x=ev S.σ x) (hb:WJ S S') (h:detF P S o k):detF P S' o k:=by
 obtain⟨d,op,C,pos,w,z⟩:=o;cases op <;> simp only [VL.detF] at h ⊢ <;> try exact h
 case move x=>rw [e x (by simp [Op.operands])];exact h
 case assign x=>rw [e x (by simp [Op.operands])];exact h
 case pick c x y=>rw [e c (by simp [Op.operands]),e x (by simp [Op.operands]),e y (by simp [Op.operands])];exact h
 case load t x=>rw [e x (by simp [Op.operands])];exact qts hb h
 case nilCheck x=>rw [e x (by simp [Op.operands])];exact h
 case binOp b t x y t'=>rw [e x (by simp [Op.operands]),e y (by simp [Op.operands])];exact h
 case unOp b t x=>rw [e x (by simp [Op.operands])];exact h
 case convert s t x=>rw [e x (by simp [Op.operands])];exact h
 case makeFunc fn a b=>rw [Wj (fun x q=>e x (by simp [Op.operands];simp_all)),Wj (fun x q=>e x (by simp [Op.operands];simp_all))];exact h
 case slice t x lo hi mx=>rw [e x (by simp [Op.operands]),qjs (fun y j=>e y (by simp [Op.operands,j])),qjs (x:=hi) (fun y j=>e y (by simp [Op.operands,j])),qjs (x:=mx) (fun y j=>e y (by simp [Op.operands,j]))];exact h
 case fieldAddr s x f=>rw [e x (by simp [Op.operands])];exact h
 case field s x f=>rw [e x (by simp [Op.operands])];exact h
 case indexAddr t x i=>rw [e x (by simp [Op.operands]),e i (by simp [Op.operands])];exact h
 case index t x i=>rw [e x (by simp [Op.operands]),e i (by simp [Op.operands])];exact h
 case extract x i=>rw [e x (by simp [Op.operands])];exact h
 case build t ps =>
  have:(ps.toList.map fun p=>(p.1,ev S'.σ p.2))=ps.toList.map fun p=>(p.1,ev S.σ p.2):=qLu fun p A=>by
   rw [e p.2 (by simp only [Op.operands];simp;exact⟨p.1,by simp_all⟩)]
  rw [this];exact h
 case call c =>
  have n:∀ x ∈ c.args.toList,ev S'.σ x=ev S.σ x:=fun x q=>e x (by simp only [Op.operands,Call.operands];simp_all);split at h
  ·split at h
   ·simp_all
   omega
  ·split at h
   ·simp_all
   omega
  ·rw [Wj n];exact h
  ·rw [Wj n];exact h
  ·rename_i u;rw [Wj n,e _ (by simp [Op.operands,Call.operands,u])];exact h
  omega
theorem j9 {S S':St} {o:Oper} {k:V->Prop} (a:∀ x ∈ o.op.operands.toList,ev S'.σ x=ev S.σ x) (hb:WJ S S') (h:detG P S o k):detG P S' o k:=by
 obtain⟨d,op,u,pos,e,j⟩:=o;cases op
 case buildSlice t n ps =>
  simp only [VL.detG] at h ⊢;have:(ps.toList.map fun p=>(p.1,VL.ev S'.σ p.2))=ps.toList.map fun p=>(p.1,VL.ev S.σ p.2):=qLu fun p q=>by
   rw [a p.2 (by simp only [Op.operands];simp;exact⟨p.1,by simp_all⟩)]
  rw [this];exact h
 all_goals exact qlt (P:=P) (k:=k) a hb h
end
section
variable {P:Program} {S:St} {d e:Option Nat} {v:V} {K:St->Prop} (hne:∀ i,d=some i->e ≠ some i)
include hne
theorem yi (S:St) (u:V):K ((S.put d v).put e u)=K ((S.put e u).put d v):=by rw [Kd S v u hne]
variable {t:TypeId}
theorem qmt:ja P (S.put d v) e t K=ja P S e t fun S'=>K (S'.put d v):=by
 unfold ja;split
 ·have:∀ b z,K (((S.put d v).addBox b z).put e (.lit (.pointer (some ⟨b,0,none⟩))))=K (((S.addBox b z).put e (.lit (.pointer (some ⟨b,0,none⟩)))).put d v):=fun b z=>yi hne (S.addBox b z) _;simp only [this];rfl
 ·rfl
theorem qzj {x:V}:ZB (S.put d v) e t x K=ZB S e t x fun S'=>K (S'.put d v):=by
 unfold ZB;split
 ·have:∀ b z,K (((S.put d v).addBox b z).put e (.lit (.pointer (some ⟨b,0,none⟩))))=K (((S.addBox b z).put e (.lit (.pointer (some ⟨b,0,none⟩)))).put d v):=fun b z=>yi hne (S.addBox b z) _;simp only [this];rfl
 ·rfl
theorem qiy {p x:V}:wm P (S.put d v) e t p x K=wm P S e t p x fun S'=>K (S'.put d v):=by
 unfold wm;split
 ·rename_i b o;have j:zF (S.put d v).boxes b=zF S.boxes b:=rfl;rw [j];split
  ·rename_i a h n _ _ _;have:K (({ S.put d v with boxes:=kZ (S.put d v).boxes b (a.take o++h++a.drop (o+n)) }:St).put e .any)=K ((({ S with boxes:=kZ S.boxes b (a.take o++h++a.drop (o+n)) }:St).put e .any).put d v) :=
    yi hne { S with boxes:=kZ S.boxes b (a.take o++h++a.drop (o+n)) } .any
   rw [this]
  ·rfl
 ·rfl
theorem qhy {s x:V}:zY P (S.put d v) e t s x K=zY P S e t s x fun S'=>K (S'.put d v):=by
 have key:∀ n k h j,yS (S.put d v) e k h j s n K=yS S e k h j s n fun S'=>K (S'.put d v):=fun n k h j=>by
  unfold yS;split
  ·have:∀ (r:Row) u,K (((S.put d v).addRow r).put e u)=K (((S.addRow r).put e u).put d v):=fun r u=>yi hne (S.addRow r) u;simp_all
  ·have:∀ (a:List Row) u,K (((S.put d v).setRows a).put e u)=K (((S.setRows a).put e u).put d v):=fun a u=>yi hne (S.setRows a) u;simp only [this];rfl
  ·rfl
 unfold zY;simp_all
theorem qsz {h:TypeId} {s x:V}:vQ P (S.put d v) e t h s x K=vQ P S e t h s x fun S'=>K (S'.put d v):=by
 have j:∀ (a:Bx) u,K (((S.put d v).setBoxes a).put e u)=K (((S.setBoxes a).put e u).put d v):=fun a u=>yi hne (S.setBoxes a) u;have k:∀ u,K ((S.put d v).put e u)=K ((S.put e u).put d v):=yi hne S;unfold vQ;simp only [j,k];rfl
end
theorem Ok.mono {P f args bs} {Q Q':V->Bx->List Row->Prop} (h:Ok P f args bs Q) (y:∀ v a d,Q v a d->Q' v a d):Ok P f args bs Q' :=
 fun w I A z u=>(h w I A z u).mono fun _ _ ⟨x,v,a,d,e,j,k,n,o,p,q⟩=>⟨x,v,a,d,e,j,k,n,o,p,y _ _ _ q⟩
def Zy (P:Program) (S:St) (d:Option Nat) (f:V) (args:List V) (K:St->Prop):Prop :=
 match f with
 | .lit (.func (.func g) first cap)=>zg P g=true/\Ok P g (first.toList.map .lit++args++cap.toList.map .lit) [] fun v a e=>a=[]/\K ((S.setRows (e++S.rows)).put d v)
 | _=>False
def Zx (P:Program) (S:St) (d:Option Nat) (f:V) (args:List V) (K:St->Prop):Prop :=
 match f with
 | .lit (.func (.func g) first cap)=>zg P g=true/\∃ e a,S.boxes.Perm (e++a)/\Ok P g (first.toList.map .lit++args++cap.toList.map .lit) e fun v h j=>((h++a).map (·.1)).Nodup->K (((S.setBoxes (h++a)).setRows (j++S.rows)).put d v)
 | .lit (.func (.yield l) first _)=>∃ e a,S.boxes.Perm (e++a)/\Q3 P l (first.toList.map .lit++args) e fun v h j=>((h++a).map (·.1)).Nodup->K (((S.setBoxes (h++a)).setRows (j++S.rows)).put d v)
 | _=>False
variable {P:Program}
theorem Q3.mon {l:Nat} {d:List V} {a:Bx} {Q Q':V->Bx->List Row->Prop} (h:Q3 P l d a Q) (z:∀ v a rs,Q v a rs->Q' v a rs):Q3 P l d a Q' :=
 fun w I D A y=>(h w I D A y).mono fun _ _ ⟨x,v,j,C,e,k,n,o,p,q,u⟩=>⟨x,v,j,C,e,k,n,o,p,q,z _ _ _ u⟩
def yu (hc:Option Bool) (o:Oper):Bool :=
 match o.op with
 | .alloc _ | .box _ _ | .store _ _ _ | .makeSlice _ _ _ | .makeMap _ _ | .lookup _ _ _ _ | .mapUpdate _ _ _ _ | .makeInterface _ _ | .mapEntry _ _ _ | .entryStore _ _ _ _ | .range _ _ | .next _ _ | .entry _=>false
 | .call c=>match c.callee with
  | .builtin .append | .builtin .copy | .invoke _ _=>false
  | .value _=>hc.isNone
  | _=>true
 | .buildSlice _ _ _=>(match hc with | some true=>false | _=>true)
 | _=>true
def wr (P:Program) (hc:Option Bool) (S:St) (o:Oper) (K:St->Prop):Prop :=
 match o.op with
 | .alloc t=>ja P S o.dst t K
 | .box t x=>ZB S o.dst t (ev S.σ x) K
 | .store t p x=>wm P S o.dst t (ev S.σ p) (ev S.σ x) K
 | .call c=>match c.callee with
  | .builtin .append=>match c.args.toList,c.argTypes.toList with
   | [s,x],[t,t']=>t'=t/\zY P S o.dst t (ev S.σ s) (ev S.σ x) K
   | _,_=>False
  | .builtin .copy=>match c.args.toList,c.argTypes.toList with
   | [s,x],[t,t']=>vQ P S o.dst t t' (ev S.σ s) (ev S.σ x) K
   | _,_=>False
  | .value f=>match hc with
   | some true=>Zx P S o.dst (ev S.σ f) (c.args.toList.map (ev S.σ)) K
   | _=>Zy P S o.dst (ev S.σ f) (c.args.toList.map (ev S.σ)) K
  | _=>False
 | .buildSlice t n parts=>ze P S o.dst t n (parts.toList.map fun p=>(p.1,ev S.σ p.2)) K
 | _=>False
variable {d e:Option Nat} {S:St} {K:St->Prop}
theorem Jy {v:V} (a:∀ i,d=some i->e ≠ some i) {t:TypeId} {n:Nat} {ps:List (Nat × V)}:ze P (S.put d v) e t n ps K=ze P S e t n ps fun S'=>K (S'.put d v):=by
 have:∀ (r:Row) u,K (((S.put d v).addRow r).put e u)=K (((S.addRow r).put e u).put d v):=fun r u=>yi a (S.addRow r) u;unfold ze;simp_all
theorem qth {v:V} (j:∀ i,d=some i->e ≠ some i) {f:V} {h:List V}:Zy P (S.put d v) e f h K=Zy P S e f h fun S'=>K (S'.put d v):=by
 have:∀ (a:List Row) u,K (((S.put d v).setRows a).put e u)=K (((S.setRows a).put e u).put d v):=fun a u=>yi j (S.setRows a) u;unfold Zy;simp only [this];rfl
theorem qtg {v:V} (k:∀ i,d=some i->e ≠ some i) {f:V} {j:List V}:Zx P (S.put d v) e f j K=Zx P S e f j fun S'=>K (S'.put d v):=by
 have:∀ (a:Bx) (h:List Row) u,K ((((S.put d v).setBoxes a).setRows h).put e u)=K ((((S.setBoxes a).setRows h).put e u).put d v):=fun a h u=>yi k ((S.setBoxes a).setRows h) u;unfold Zx;simp only [this];rfl
variable {hc:Option Bool} {o:Oper}
theorem qr0 {v:V} (a:∀ i,d=some i->o.dst ≠ some i) (h:∀ x ∈ o.op.operands.toList,ev (S.put d v).σ x=ev S.σ x):wr P hc (S.put d v) o K=wr P hc S o fun S'=>K (S'.put d v):=by
 obtain⟨e,op,A,pos,u,w⟩:=o;cases op <;> simp only [wr] <;> try rfl
 case alloc t=>exact qmt a
 case box t x=>rw [h x (by simp [Op.operands])];exact qzj a
 case store t p x=>rw [h p (by simp [Op.operands]),h x (by simp [Op.operands])];exact qiy a
 case buildSlice t n ps =>
  have:(ps.toList.map fun p=>(p.1,VL.ev (S.put d v).σ p.2))=ps.toList.map fun p=>(p.1,VL.ev S.σ p.2):=qLu fun p y=>by
   rw [h p.2 (by simp only [Op.operands];simp;exact⟨p.1,by simp_all⟩)]
  rw [this];exact Jy a
 case call c =>
  have k:∀ x ∈ c.args.toList,ev (S.put d v).σ x=ev S.σ x:=fun x z=>h x (by simp only [Op.operands,Call.operands];simp_all);split
  ·split
   ·rename_i j _;rw [k _ (by simp [j]),k _ (by simp [j]),qhy a]
   ·rfl
  ·split
   ·rename_i j _;rw [k _ (by simp [j]),k _ (by simp [j]),qsz a]
   ·rfl
  ·rename_i q;rw [Wj k,h _ (by simp [Op.operands,Call.operands,q])];split
   ·exact qtg a
   ·exact qth a
  ·rfl
def YV (hc:Option Bool) (o:Oper):Bool:=match o.op with
 | .store _ _ _=>false
 | .call c=>match c.callee with | .builtin .copy=>false | .value _=>(match hc with | some true=>false | _=>true) | _=>true
 | _=>true
structure qt7 (hc:Option Bool) (S S':St) (o:Oper):Prop where
 slots:∀ i,o.dst ≠ some i->S'.σ i=S.σ i
 boxes:YV hc o=true->WJ S S'
theorem xS (X:St) (d:Option Nat) (u:V) {i:Nat} (h:d ≠ some i):(X.put d u).σ i=X.σ i:=by simp [St.put,UI,h]
theorem qlg {a:Bx} {b c:Nat} {k cs:List V} (hb:b ∉ a.map (·.1)) (h:zF a c=some cs):zF ((b,.c k)::a) c=some cs:=by
 have d:c ∈ a.map (·.1):=x9.2 ⟨(c,.c cs),xq h,rfl⟩;have j:c ≠ b:=fun e=>hb (e▸d);simp [zF,j,h]
theorem UM {l:List Row} {y:Value} {L d:Row->List Row->Prop} (h:∀ r rs,L r rs->d r rs):uj l y L->uj l y d:=by
 induction l generalizing L d with
 | nil=>exact id
 | cons r rs e=>exact fun a=>a.imp (fun a=>⟨a.1,h _ _ a.2⟩) (e fun j k=>h j (r::k))
theorem qli (h:wr P hc S o K):wr P hc S o fun S'=>K S'/\qt7 hc S S' o:=by
 obtain⟨e,op,M,pos,C,G⟩:=o;have fresh:∀ (b:Nat) (N:List V) u,b ∉ qL S.boxes S.rows->qt7 hc S ((S.addBox b N).put e u) ⟨e,op,M,pos,C,G⟩:=fun b N u W =>
  ⟨fun i a=>xS _ _ _ a,fun _ c Q hc=>qlg (fun Y=>W (z6.2 (.inl Y))) hc⟩
 have rows:∀ (X:St) u,X.boxes=S.boxes->X.σ=S.σ->qt7 hc S (X.put e u) ⟨e,op,M,pos,C,G⟩:=fun X u hx Z =>
  ⟨fun i a=>by rw [xS _ _ _ a,Z],fun _ c Q hc=>by show zF X.boxes c=_;simp_all⟩
 cases op <;> simp only [wr] at h ⊢ <;> try exact h
 case alloc t =>
  unfold ja at h ⊢;simp_all
 case box t x =>
  unfold ZB at h ⊢;simp_all
 case store t p x =>
  unfold wm at h ⊢;split at h
  ·split at h
   ·exact⟨h.1,h.2.1,h.2.2.1,h.2.2.2,fun i a=>xS _ _ _ a,fun d=>by exact qD⟩
   omega
  omega
 case buildSlice t n ps =>
  unfold ze at h ⊢;split at h
  ·split at h
   ·obtain⟨H,j,q,es,R,T,U⟩:=h;exact⟨H,j,q,es,R,T,fun y=>⟨U y,rows (S.addRow _) _ rfl rfl⟩⟩
   omega
  omega
 case call c =>
  split at h
  ·split at h
   ·refine⟨h.1,?_⟩;have h:=h.2;unfold zY at h ⊢;split at h
    ·split at h
     ·refine⟨h.1,?_⟩;have h:=h.2;have key:∀ z k D F s,yS S e k D F s z K->yS S e k D F s z fun S'=>K S'/\qt7 hc S S' ⟨e,.call c,M,pos,C,G⟩:=fun z k D F s h=>by
       unfold yS at h ⊢;split at h
       ·exact⟨h.1,fun y=>⟨h.2 y,rows (S.addRow _) _ rfl rfl⟩⟩
       ·exact⟨h.1,UM (fun r L h=>⟨h.1,fun y'=>⟨h.2 y',rows (S.setRows _) _ rfl rfl⟩⟩) h.2⟩
       omega
      unfold onL at h ⊢;split at h
      ·simp_all
      ·simp_all
      omega
     omega
    omega
   omega
  ·rename_i A;split at h
   ·unfold vQ at h ⊢;split at h
    ·split at h
     ·refine uN h fun m z h=>?_;split at h
      ·simp_all
      ·split at h
       ·exact⟨h.1,h.2,fun i a=>xS _ _ _ a,fun d=>by simp [YV,A] at d⟩
       omega
      omega
     omega
    omega
   omega
  ·rename_i A;split at h
   ·unfold Zx at h ⊢;split at h
    ·obtain⟨H,w,J,j,q⟩:=h;exact⟨H,w,J,j,Ok.mono q fun v O L h I=>⟨h I,fun i a=>xS _ _ _ a,fun d=>by simp [YV,A] at d⟩⟩
    ·obtain⟨w,J,j,q⟩:=h;exact⟨w,J,j,q.mon fun v O L h I=>⟨h I,fun i a=>xS _ _ _ a,fun d=>by simp [YV,A] at d⟩⟩
    omega
   ·unfold Zy at h ⊢;split at h
    ·exact⟨h.1,Ok.mono h.2 fun v w L h=>⟨h.1,h.2,rows (S.setRows _) _ rfl rfl⟩⟩
    omega
  omega
def jB (P:Program) (hc:Option Bool) (o:Oper) (K:St->Prop) (S:St):Prop :=
 if yu hc o=true then detG P S o fun v=>K (S.put o.dst v) else wr P hc S o K
def xi (P:Program) (hc:Option Bool) (ops:Array Oper) (o:Oper) (K:St->Prop) (S:St):Prop :=
 match xM ops S.σ o with
 | some true=>jB P hc o K S
 | some false=>K (S.put o.dst QP)
 | none=>False
variable {ops:Array Oper}
theorem uv {S':St} {o':Oper} (d:∀ i,o'.dst ≠ some i->S'.σ i=S.σ i) (a:∀ i,o'.dst=some i->i ∉ o.looksAt ops):∀ x ∈ o.op.operands.toList,ev S'.σ x=ev S.σ x:=by
 intro x j;cases x with
 | tmp t =>
  have h:t ∈ Oper.tm o:=by
   simp only [Oper.tm,qMx];exact⟨.tmp t,j,rfl⟩
  exact d t fun e=>a t e (J8 h)
 | _=>rfl
theorem Q9 {S':St} {o':Oper} (k:∀ i,o'.dst ≠ some i->S'.σ i=S.σ i) (h:∀ i,o'.dst=some i->i ∉ o.looksAt ops):xM ops S'.σ o=xM ops S.σ o:=by
 unfold xM;cases d:o.guard with
 | none=>rfl
 | some a =>
  obtain⟨g,n⟩:=a;simp only [];cases hd:(ops[g]?).bind (·.dst) with
  | none=>rfl
  | some t =>
   have j:o'.dst ≠ some t:=fun e=>h t e (by simp [Oper.looksAt,d,hd]);simp_all
def qci (o:Oper):Bool:=match o.op with | .load _ _=>false | _=>true
theorem qc8 {S':St} {k:V->Prop} (j:qci o=true) (e:∀ x ∈ o.op.operands.toList,ev S'.σ x=ev S.σ x) (h:detG P S o k):detG P S' o k:=by
 have a:detG P ⟨S'.σ,S.boxes,S'.rows⟩ o k:=j9 (S:=S) (S':=⟨S'.σ,S.boxes,S'.rows⟩) e (fun b p h=>h) h;obtain⟨d,op,u,pos,n,q⟩:=o;cases op <;> first | exact a | (simp [qci] at j)
theorem qr1 {z:St->Prop} (h:wr P hc S o K) (a:∀ S',K S'->qt7 hc S S' o->z S'):wr P hc S o z:=by
 replace h:=qli h;obtain⟨e,op,M,pos,I,L⟩:=o;cases op <;> simp only [wr] at h ⊢ <;> try exact h
 case alloc t =>
  unfold ja at h ⊢;split at h
  ·simp_all
  omega
 case box t x =>
  unfold ZB at h ⊢;split at h
  ·simp_all
  omega
 case store t p x =>
  unfold wm at h ⊢;split at h
  ·split at h
   ·simp_all
   omega
  omega
 case buildSlice t n ps =>
  unfold ze at h ⊢;split at h
  ·split at h
   ·obtain⟨G,u,w,es,N,O,Q⟩:=h;simp_all
   omega
  omega
 case call c =>
  split at h
  ·split at h
   ·refine⟨h.1,?_⟩;have h:=h.2;unfold zY at h ⊢;split at h
    ·split at h
     ·refine⟨h.1,?_⟩;have h:=h.2;have key:∀ q k A C s,(yS S e k A C s q fun S'=>K S'/\qt7 hc S S' ⟨e,.call c,M,pos,I,L⟩)->yS S e k A C s q z:=fun q k A C s h=>by
       unfold yS at h ⊢;split at h
       ·exact⟨h.1,fun y=>a _ (h.2 y).1 (h.2 y).2⟩
       ·exact⟨h.1,UM (fun r F h=>⟨h.1,fun H=>a _ (h.2 H).1 (h.2 H).2⟩) h.2⟩
       omega
      unfold onL at h ⊢;split at h
      ·simp_all
      ·simp_all
      omega
     omega
    omega
   omega
  ·split at h
   ·unfold vQ at h ⊢;split at h
    ·split at h
     ·refine uN h fun m q h=>?_;split at h
      ·simp_all
      ·split at h
       ·simp_all
       omega
      omega
     omega
    omega
   omega
  ·split at h
   ·unfold Zx at h ⊢;split at h
    ·obtain⟨G,j,D,u,w⟩:=h;exact⟨G,j,D,u,Ok.mono w fun v J F h d=>a _ (h d).1 (h d).2⟩
    ·obtain⟨j,D,u,w⟩:=h;exact⟨j,D,u,w.mon fun v J F h d=>a _ (h d).1 (h d).2⟩
    omega
   ·unfold Zy at h ⊢;split at h
    ·exact⟨h.1,Ok.mono h.2 fun v j F h=>⟨h.1,a _ h.2.1 h.2.2⟩⟩
    omega
  omega
def total (o:Oper):Bool:=o.guard.isNone && match o.op with | .move _ | .assign _=>true | _=>false
def qxk (o:Oper):Bool:=match o.op with | .buildSlice _ _ _=>true | .call c=>(match c.callee with | .builtin .append=>true | _=>false) | _=>false
def qCx (o:Oper):Bool:=o.guard.isNone && match o.op with | .slice _ _ _ _ _=>true | .load _ _=>true | .fieldAddr _ _ _=>true | .indexAddr _ _ _=>true | _=>false
theorem zi.atP {S:St} {v:V} {α:Type} {Y:List V->(α->Prop)->Prop} (d:∀ a,zi (Y a)):zi fun K=>atP S v fun cs=>Y cs K:=by
 unfold VL.atP
 repeat' split
 all_goals first | exact zi.no | exact d _
theorem zi.shiftP {v:V} {off:Nat}:zi (shiftP v off):=by
 unfold VL.shiftP
 repeat' split
 all_goals first | exact zi.no | exact zi.pure _
theorem zi.loadK {P:Program} {t:TypeId} {cs:List V}:zi (loadK P t cs):=by
 unfold VL.loadK
 repeat' split
 all_goals first | exact zi.no | exact zi.pure _ | exact zi.and _ (zi.pure _)
theorem zi.fieldAddrK {P:Program} {a:Bx} {s:TypeId} {f:Nat} {v:V}:zi (fieldAddrK P a s f v):=by
 unfold VL.fieldAddrK VL.zeroP
 repeat' split
 all_goals first | exact zi.no | exact zi.shiftP | exact zi.and _ (zi.pure _)
theorem zi.idxAddrK {P:Program} {t:TypeId} {v i:V}:zi (idxAddrK P t v i):=by
 unfold VL.idxAddrK
 repeat' split
 all_goals first | exact zi.no | exact zi.and _ (zi.and _ zi.shiftP) | exact zi.onS (fun _=>zi.and _ (zi.and _ (zi.pure _))) (fun _ _ _ _=>zi.and _ (zi.and _ (zi.pure _)))
theorem qxl (h:qCx o=true):zi (detG P S o):=by
 obtain⟨e,op,k,pos,d,j⟩:=o;cases op <;> simp only [qCx,qPu,kA] at h
 case slice t x lo hi mx=>exact zi.sliceK
 case load t a=>exact zi.atP fun _=>zi.loadK
 case fieldAddr s x f=>exact zi.fieldAddrK
 case indexAddr t x i=>exact zi.idxAddrK
theorem Yb:∀ {rows:List Row} {y:Value} {K:Row->List Row->Prop},uj rows y K->∃ r rs,K r rs/\∀ a:Row->List Row->Prop,a r rs->uj rows y a
 | r::rs,y,K,h=>by
  rcases h with⟨d,e⟩ | h
  ·exact⟨r,rs,e,fun a j=>.inl ⟨d,j⟩⟩
  ·obtain⟨k,n,d,e⟩:=Yb h;exact⟨k,r::n,d,fun a j=>.inr (e _ j)⟩
theorem qB6 (A:qxk o=true) (h:wr P hc S o K) :
  ∃ F:Value->St,(∀ y,(F y).boxes=S.boxes/\∀ i,o.dst ≠ some i->(F y).σ i=S.σ i)/\(∀ y,K (F y))/\∀ a:St->Prop,(∀ y,a (F y))->wr P hc S o a:=by
 obtain⟨d,op,ty,pos,N,O⟩:=o;cases op <;> simp only [qxk,kA] at A
 case buildSlice t n ps =>
  simp only [wr] at h ⊢;unfold ze at h ⊢;split at h
  ·rename_i u1 U;split at h
   ·rename_i u2 W X;obtain⟨C,u,D,es,H,q5,L⟩:=h;exact⟨fun y=>(S.addRow ⟨y,_,_⟩).put d _,fun y=>⟨rfl,fun i p=>xS (S.addRow ⟨y,_,_⟩) _ _ p⟩,L,fun a q=>by simp_all⟩
   simp_all
  simp_all
 case call c =>
  obtain⟨callee,args,aa⟩:=c;cases callee <;> simp only [kA] at A
  case builtin b =>
   cases b <;> simp only [kA] at A;simp only [wr] at h ⊢;split at h
   ·rename_i s x t t' j T;obtain⟨rfl,h⟩:=h;unfold zY at h;split at h
    ·rename_i e hu;split at h
     ·rename_i k G z q Q Y;obtain⟨R,h⟩:=h;have key:∀ w,yS S d k G e (ev S.σ s) w K->∃ F:Value->St,(∀ y,(F y).boxes=S.boxes/\∀ i,d ≠ some i->(F y).σ i=S.σ i)/\(∀ y,K (F y))/\∀ a:St->Prop,(∀ y,a (F y))->yS S d k G e (ev S.σ s) w a:=by
       intro w j;unfold yS at j ⊢;split at j
       ·exact⟨fun y=>(S.addRow ⟨y,k,e⟩).put d _,fun y=>⟨rfl,fun i p=>xS (S.addRow ⟨y,_,_⟩) _ _ p⟩,j.2,fun a q=>⟨j.1,q⟩⟩
       ·obtain⟨C,u⟩:=j;obtain⟨r,M,D,H⟩:=Yb u;exact⟨fun y=>(S.setRows (⟨y,k,e⟩::M)).put d _,fun y=>⟨rfl,fun i p=>xS (S.setRows _) _ _ p⟩,D.2,fun a q=>⟨C,H _ ⟨D.1,q⟩⟩⟩
       ·simp_all
      unfold onL at h;split at h
      ·rename_i own Z es J;obtain⟨C,u⟩:=h;obtain⟨F,f1,f2,f3⟩:=key es u;refine⟨F,f1,f2,fun a I=>⟨rfl,?_⟩⟩;unfold zY onL;simp_all
      ·rename_i J;obtain⟨F,f1,f2,f3⟩:=key [] h;refine⟨F,f1,f2,fun a I=>⟨rfl,?_⟩⟩;unfold zY onL;simp_all
      simp_all
     simp_all
    simp_all
   simp_all
def qIu (hc:Option Bool) (d a:Oper):Bool :=
 ((yu hc d && (yu hc a || YV hc a || qci d)) || (!yu hc d && yu hc a && total a)) || (!yu hc d && yu hc a && qxk d && qCx a)
theorem qr3 {d:St->Prop} (h:jB P hc o K S) (j:∀ S',K S'->(∀ i,o.dst ≠ some i->S'.σ i=S.σ i)->(yu hc o=true∨YV hc o=true->WJ S S')->d S'):jB P hc o d S:=by
 unfold jB at h ⊢;split at h
 ·rename_i a;rw [if_pos a];obtain⟨v,w,u⟩:=zl.detG _ h;exact u _ (j _ w (fun i q=>xS _ _ _ q) fun _ b x n=>n)
 ·rename_i a;rw [if_neg a];exact qr1 h fun S' k e=>j S' k e.slots fun p=>e.boxes (p.resolve_left a)
theorem qr2 {v:V} (e:∀ i,d=some i->o.dst ≠ some i) (n:∀ i,d=some i->i ∉ o.looksAt ops) :
  jB P hc o K (S.put d v)↔jB P hc o (fun S'=>K (S'.put d v)) S:=by
 have a:∀ x ∈ o.op.operands.toList,ev (S.put d v).σ x=ev S.σ x:=uv (o':=⟨d,o.op,o.type,o.pos,o.after,o.guard⟩) (fun i k=>xS _ _ _ k) n;unfold jB;split
 ·have w:∀ u,K ((S.put d v).put o.dst u)↔K ((S.put o.dst u).put d v):=fun u=>by rw [Kd S v u e]
  constructor
  ·intro h;obtain⟨u,hu,p⟩:=zl.detG _ (j9 (S:=S.put d v) (S':=S) (fun x q=>(a x q).symm) (fun b j h=>h) h);simp_all
  ·intro h;obtain⟨u,hu,p⟩:=zl.detG _ (j9 (S:=S) (S':=S.put d v) a (fun b j h=>h) h);simp_all
 ·rw [qr0 e a]
theorem Vh {k a:V->Prop} (h:detG P S o k) (d:∀ v,k v->a v):detG P S o a:=by
 obtain⟨v,j,e⟩:=zl.detG _ h;simp_all
theorem vo {a:St->Prop} (h:xi P hc ops o K S) (d:∀ S',K S'->(∀ i,o.dst ≠ some i->S'.σ i=S.σ i)->(yu hc o=true∨YV hc o=true->WJ S S')->a S'):xi P hc ops o a S:=by
 unfold xi at h ⊢;split at h
 ·exact qr3 h d
 ·exact d _ h (fun i j=>xS _ _ _ j) fun _ b k e=>e
 omega
theorem ZO {v:V} (e:∀ i,d=some i->o.dst ≠ some i) (a:∀ i,d=some i->i ∉ o.looksAt ops) :
  xi P hc ops o K (S.put d v)↔xi P hc ops o (fun S'=>K (S'.put d v)) S:=by
 unfold xi;rw [KX a];split
 ·exact qr2 e a
 ·rw [Kd S v QP e]
 rfl
theorem qlh {j d:Oper} (aa:j.apart ops d=true) (C:qIu hc j d=true) (h:xi P hc ops j (xi P hc ops d K) S) :
  xi P hc ops d (xi P hc ops j K) S:=by
 obtain⟨z,M,H⟩:=Oper.apart_spec aa;have wi:∀ (a:St),(∀ i,d.dst ≠ some i->a.σ i=S.σ i)->xM ops a.σ j=xM ops S.σ j:=fun a n=>Q9 (o':=d) n H;have J:∀ (a:St),(∀ i,d.dst ≠ some i->a.σ i=S.σ i)->∀ x ∈ j.op.operands.toList,ev a.σ x=ev S.σ x:=fun a n=>uv (o':=d) n H;have W:∀ i,d.dst=some i->j.dst ≠ some i:=fun i O e=>M i e O;unfold qIu at C;simp only [qPn,k7,qMv] at C;rcases C with(⟨n,C⟩ | ⟨⟨n,ad⟩,D⟩) | ⟨⟨⟨n,ad⟩,ab⟩,p⟩
 ·
  have q:=h;unfold xi at q;split at q
  ·rename_i w;unfold jB at q;rw [if_pos n] at q;obtain⟨v,I,hr⟩:=zl.detG _ q;have G:xi P hc ops d K (S.put j.dst v):=I;rw [ZO M z] at G;refine vo G fun a Q p X=>?_;unfold xi;rw [wi a p,w];simp only [];unfold jB;rw [if_pos n];have hd:=hr (fun u=>u=v) rfl;have ac:detG P a j fun u=>u=v:=by
    rcases C with(A | A) | A
    ·exact j9 (J a p) (X (.inl A)) hd
    ·exact j9 (J a p) (X (.inr A)) hd
    ·exact qc8 A (J a p) hd
   exact Vh ac fun u hu=>hu▸Q
  ·rename_i w;have G:xi P hc ops d K (S.put j.dst QP):=q;rw [ZO M z] at G;refine vo G fun a Q p _=>?_;unfold xi;simp_all
  simp_all
 ·
  have wj:∀ (a:St),(∀ i,j.dst ≠ some i->a.σ i=S.σ i)->xM ops a.σ d=xM ops S.σ d:=fun a n=>Q9 (o':=j) n z;have T:∀ (a:St),(∀ i,j.dst ≠ some i->a.σ i=S.σ i)->∀ x ∈ d.op.operands.toList,ev a.σ x=ev S.σ x:=fun a n=>uv (o':=j) n z;have N:d.guard=none:=by
   unfold total at D;simp only [k7,qRe] at D;exact D.1
  have w:∀ a:St,xM ops a.σ d=some true:=fun a=>by unfold xM;rw [N]
  obtain⟨x,hx,hg⟩:∃ x:Operand,x ∈ d.op.operands.toList/\(∀ (a:St) (o:St->Prop),xi P hc ops d o a↔o (a.put d.dst (ev a.σ x))):=by
   obtain⟨e,op,ty,pos,af,gd⟩:=d;cases op <;> simp only [total,qPu] at D <;> try (cases D)
   case move x=>exact⟨x,by simp [Op.operands],fun a o=>by unfold xi;rw [w];rfl⟩
   case assign x=>exact⟨x,by simp [Op.operands],fun a o=>by unfold xi;rw [w];rfl⟩
  rw [hg S,ZO W H];refine vo h fun a Q p _=>?_;simp_all
 ·
  have T:∀ (a:St),(∀ i,j.dst ≠ some i->a.σ i=S.σ i)->∀ x ∈ d.op.operands.toList,ev a.σ x=ev S.σ x:=fun a n=>uv (o':=j) n z;have N:d.guard=none:=by
   unfold qCx at p;simp only [k7,qRe] at p;exact p.1
  have w:∀ a:St,xM ops a.σ d=some true:=fun a=>by unfold xM;rw [N]
  have L:∀ (a:St) (o:St->Prop),xi P hc ops d o a↔detG P a d fun v=>o (a.put d.dst v):=fun a o=>by
   unfold xi;rw [w];simp only [];unfold jB;simp_all
  have frame:∀ (a:St) (k:V->Prop),(∀ i,j.dst ≠ some i->a.σ i=S.σ i)->a.boxes=S.boxes->detG P a d k->detG P S d k:=fun a k ae hb hd =>
   j9 (fun x hx=>(T a ae x hx).symm) (fun b cs h=>by simp_all) hd
  rw [L S];have q:(match xM ops S.σ j with | some true=>jB P hc j (xi P hc ops d K) S | some false=>xi P hc ops d K (S.put j.dst QP) | none=>False):=h;have R:∀ v,xi P hc ops j (fun a=>K (a.put d.dst v)) S->xi P hc ops j K (S.put d.dst v):=fun v I=>(ZO W H).2 I;split at q
  ·rename_i Z;have U:∀ o:St->Prop,xi P hc ops j o S↔wr P hc S j o:=fun o=>by
    unfold xi;rw [Z];simp only [];unfold jB;simp_all
   have hh:wr P hc S j (xi P hc ops d K):=(U _).1 (by omega);obtain⟨F,f1,f2,f3⟩:=qB6 ab hh;have hd:=fun y=>frame _ _ (f1 y).2 (f1 y).1 ((L _ _).1 (f2 y));obtain⟨v0,Y⟩:=qxl p _ (hd undef);exact(Y _).2 (R v0 ((U _).2 (f3 _ fun y=>(Y _).1 (hd y))))
  ·rename_i Z;have hd:=frame _ _ (fun i O=>xS S _ _ O) rfl ((L _ _).1 q);refine Vh hd fun v I=>R v ?_;unfold xi;simp_all
  simp_all
def XL (md:Region.Mode) (ops:Array Oper):Nat->List (List Nat)
 | 0=>[]
 | n+1=>XL md ops n++[match ops[n]? with
  | some o=>(o.after.toList.filter (Region.binds md)).flatMap fun(e:Edge)=>e.on::(XL md ops n).getD e.on []
  | none=>[]]
def qfa (hc:Option Bool) (ops:Array Oper) (i j:Nat):Bool :=
 match ops[i]?, ops[j]? with
 | some a,some d=>a.apart ops d && qIu hc a d
 | _,_=>true
def qgf (hc:Option Bool) (ops:Array Oper) (A:List (List Nat)):Nat->Bool
 | 0=>true
 | n+1=>qgf hc ops A n && (List.range n).all fun j=>(A.getD n []).contains j || qfa hc ops j n
def qcl (md:Region.Mode) (ops:Array Oper):Bool :=
 (List.range ops.size).all fun i=>match ops[i]? with | some o=>o.after.toList.all fun e=>!Region.binds md e || decide (e.on < i) | none=>true
def YK (hc:Option Bool) (ops:Array Oper):Bool :=
 qcl .any ops && qgf hc ops (XL .any ops ops.size) ops.size
section
variable {P:Program} {hc:Option Bool} {ops:Array Oper} {md:Region.Mode}
def XW (md:Region.Mode) (ops:Array Oper) (listed:Array Bool) (i:Nat):Prop:=∀ o,ops[i]? = some o->∀ e ∈ o.after,Region.binds md e=true->listed.getD e.on false=true
def qoy (md:Region.Mode) (ops:Array Oper) (listed:Array Bool):Prop:=∀ i,listed.getD i false=true->XW md ops listed i
theorem yG:∀ n,(XL md ops n).length=n
 | 0=>rfl
 | n+1=>by simp [XL,yG n]
theorem qtx {listed:Array Bool} (hd:qoy md ops listed):∀ n i,XW md ops listed i->∀ j ∈ (XL md ops n).getD i [],listed.getD j false=true:=by
 intro n
 induction n with
 | zero=>intro i _ j d;simp [XL] at d
 | succ n p =>
  intro i k j d;by_cases x:i < n
  ·refine p i k j ?_;simpa [XL,qOw (show i < (XL md ops n).length by rw [yG];omega)] using d
  ·by_cases h:i=n
   ·subst h;have a:j ∈ (match ops[i]? with
     | some o=>(o.after.toList.filter (Region.binds md)).flatMap fun(e:Edge)=>e.on::(XL md ops i).getD e.on []
     | none=>[]):=by
     simpa [XL,qPq (show (XL md ops i).length<=i by rw [yG];simp),yG] using d
    split at a
    ·rename_i o w;simp only [List.mem_flatMap,qA6,xb] at a;obtain⟨e,⟨h,q⟩,a⟩:=a;have u:=k o w e (by simp_all) q;rcases a with rfl | a
     ·omega
     ·exact p e.on (hd e.on u) j a
    simp_all
   ·have:(XL md ops (n+1)).getD i []=[]:=by
     have y:=yG (md:=md) (ops:=ops) (n+1);simp [List.getD,qMa (show (XL md ops (n+1)).length<=i by omega)]
    simp_all
theorem YY {A:List (List Nat)}:∀ {n:Nat},qgf hc ops A n=true->∀ i j,j < i->i < n->j ∈ A.getD i []∨qfa hc ops j i=true
 | 0,_,i,j,_,h=>absurd h (qOe _)
 | n+1,h,i,j,hji,hin=>by
  simp only [qgf,k7,qNh,qHj,qPn,qRx] at h;by_cases e:i=n
  ·simp_all
  ·exact YY h.1 i j hji (by omega)
def kC (P:Program) (hc:Option Bool) (ops:Array Oper) (i:Nat) (K:St->Prop) (S:St):Prop :=
 match ops[i]? with
 | some o=>xi P hc ops o K S
 | none=>K S
def qap (P:Program) (hc:Option Bool) (ops:Array Oper) (K:St->Prop):List Nat->St->Prop
 | [],S=>K S
 | i::r,S=>kC P hc ops i (qap P hc ops K r) S
variable {i:Nat} {K:St->Prop} {S:St}
theorem qf9 {a:St->Prop} (e:∀ S,K S->a S) (h:kC P hc ops i K S):kC P hc ops i a S:=by
 unfold kC at h ⊢;split at h
 ·exact vo h fun d h _ _=>e d h
 simp_all
theorem qga {j:Nat} (d:qfa hc ops i j=true) (h:kC P hc ops i (kC P hc ops j K) S):kC P hc ops j (kC P hc ops i K) S:=by
 unfold qfa at d;cases k:ops[i]? with
 | none =>
  have e:∀ a:St->Prop,kC P hc ops i a=a:=fun a=>by funext S;simp [kC,k]
  simp_all
 | some q =>
  cases n:ops[j]? with
  | none =>
   have e:∀ a:St->Prop,kC P hc ops j a=a:=fun a=>by funext S;simp [kC,n]
   simp_all
  | some u =>
   simp only [k,n,k7] at d;have o:∀ a:St->Prop,kC P hc ops i a=xi P hc ops q a:=fun a=>by funext S;simp [kC,k]
   have p:∀ a:St->Prop,kC P hc ops j a=xi P hc ops u a:=fun a=>by funext S;simp [kC,n]
   rw [o,p] at h;rw [o,p];exact qlh d.1 d.2 h
theorem W9 {K:St->Prop} {i:Nat} {B:List Nat}:∀ {A:List Nat} {S:St},(∀ j ∈ A,qfa hc ops j i=true)->qap P hc ops K (A++i::B) S->kC P hc ops i (qap P hc ops K (A++B)) S
 | [],_,_,h=>h
 | j::A,S,hp,h=>by
  refine qga (hp j x6) ?_;exact qf9 (fun S' a=>W9 (fun e d=>hp e (z8 _ d)) a) h
theorem qdi {d:Option Nat} {t:TypeId} {s x:V} (h:zY P S d t s x K):xw P S d t t s x K:=by
 have no:∀ a n c,s=.lit (.slice (some a) n c)->False:=fun a n c e=>by
  subst e;unfold zY at h;split at h
  ·split at h
   ·have h:=h.2;unfold onL at h;split at h
    ·exact h.2.elim
    ·exact h.elim
    omega
   omega
  omega
 unfold xw;split
 ·simp_all
 ·simp_all
 ·simp_all
 ·unfold zY at h;split at h
  ·split at h
   ·exact(show False from h.2).elim
   simp_all
  simp_all
 simp_all
theorem qhs {d:Option Nat} {t:TypeId} {n:Nat} {ps:List (Nat × V)} (h:ze P S d t n ps K):wL P S d t n ps K:=by
 unfold wL;split
 ·simp_all
 omega
theorem qdo {hc:Option Bool} {o:Oper} (h:wr P hc S o K):aOp P S o K:=by
 unfold wr at h;unfold aOp;split at h
 ·simp_all
 ·simp_all
 ·simp_all
 ·rename_i c j;simp only [j];split at h
  ·rename_i d;split at h
   ·rename_i k n;obtain⟨rfl,h⟩:=h;simp only [d,k,n];exact qdi h
   simp_all
  ·rename_i d;split at h
   ·simp_all
   simp_all
  ·rename_i d;simp only [d];split at h
   ·unfold Zx at h;unfold yE;split at h
    ·rename_i a;simp only [a];simp only [h.1];exact h.2
    ·rename_i a;simp only [a];exact h
    ·exact h.elim
   ·unfold Zy at h;unfold yE;split at h
    ·rename_i a;simp only [a];simp only [h.1];exact⟨[],S.boxes,by simp,h.2.mono fun v p u ⟨e,q⟩=>by subst e;exact qD⟩
    ·exact h.elim
  simp_all
 ·rename_i j;simp only [j];exact qhs h
 simp_all
theorem qao {C:Ctx} {a:Act} {w:World} {I:Cells} {z:Act->World->Prop} {Q':Exit->Act->World->Prop} (hd:∀ o,ops[i]? = some o->zH C.N o=true) (d:Γ C S a w I)
  (n:∀ S' e j k,Γ C S' e j k->K S'->z e j) (h:kC C.P hc ops i K S):wpOpIn C.fe 0 C.P ops Q' i z a w:=by
 unfold kC at h;unfold wpOpIn;split at h
 ·rename_i o p;simp only [p];have q:=hd o p;unfold xi at h;split at h
  ·rename_i x;rw [if_pos (wv d x)];unfold jB at h;split at h
   ·obtain⟨v,A,u⟩:=Wz h;exact yU.wp d q (A _ _ _ (d.reads _) d.2) fun e j k y=>n _ _ _ _ y u
   ·exact Oper.wpIn_mono (fun e j ⟨S',k,y,u⟩=>n S' e j k y u) (VG q (qdo h) a w I d Q')
  ·rename_i x;rw [if_neg (by rw [wv d x];simp)];exact⟨fun f _=>C.fe_fn f,n _ _ _ I ⟨d.1.put o.dst (qz q) (by rfl),d.2.put _ _⟩ h⟩
  simp_all
 ·rename_i p;simp only [p];exact n _ _ _ _ d h
def leftOf (ops:Array Oper) (listed:Array Bool):List Nat:=(List.range ops.size).filter fun i=>!listed.getD i true
theorem qDn {l:Array Bool} (h:l.getD i false=true):l.getD i true=true:=by
 by_cases a:i < l.size
 ·simp_all
 simp_all
theorem Kx {l:Array Bool} (a:i < l.size):l.getD i false=l.getD i true:=by
 simp_all
theorem Kc {listed:Array Bool} (a:i ∈ Region.ready md ops listed):i < ops.size/\listed.getD i true=false/\XW md ops listed i:=by
 simp only [Region.ready,qA6,qHj,k7,qMv] at a;refine⟨a.1,a.2.1,fun o j e h k=>?_⟩;have d:=a.2.2;simp only [j,Option.map_some,Option.getD_some,qQq] at d;have:=d e h;simp_all
theorem qe2 {listed:Array Bool} (a:i < ops.size) (hu:listed.getD i true=false) (k:XW md ops listed i):i ∈ Region.ready md ops listed:=by
 simp only [Region.ready,qA6,qHj,k7,qMv];refine⟨a,hu,?_⟩;obtain⟨o,d⟩:∃ o,ops[i]? = some o:=⟨_,qPv a⟩;simp only [d,Option.map_some,Option.getD_some,qQq];intro e j;by_cases h:Region.binds md e=true
 ·simp [k o d e j h]
 simp_all
theorem qah (h:qcl md ops=true) {o:Oper} (a:ops[i]? = some o) {e:Edge} (k:e ∈ o.after) (hb:Region.binds md e=true):e.on < i:=by
 have j:i < ops.size:=(vx.1 a).1;simp only [qcl,qNh,qHj] at h;have:=h i j;simp only [a,qNh,qPn,qMv,decide_eq_true_eq] at this;rcases this e (by simp_all) with d | d
 ·simp_all
 omega
theorem JW {C:Ctx} {Q:Exit->Act->World->Prop} (ae:qcl md ops=true) (aa:qgf hc ops (XL md ops ops.size) ops.size=true)
  (hd:∀ (i:Nat) (o:Oper),ops[i]? = some o->zH C.N o=true) (hQ:∀ S a w I,Γ C S a w I->K S->Q .normal a w) :
  ∀ (f:Nat) (listed:Array Bool) (S:St) (a:Act) (w:World) (I:Cells),listed.size=ops.size->qoy md ops listed->(leftOf ops listed).length=f->Γ C S a w I->qap C.P hc ops K (leftOf ops listed) S->wpAnyIn C.fe 0 C.P md ops Q f listed a w:=by
 intro f
 induction f with
 | zero =>
  intro listed S a w I aj H D M h;have ah:leftOf ops listed=[]:=qMy.1 D;rw [ah] at h;refine⟨?_,hQ S a w I M h⟩;cases hr:Region.ready md ops listed with
  | nil=>rfl
  | cons i r =>
   obtain⟨u,G,_⟩:=Kc (md:=md) (ops:=ops) (listed:=listed) (i:=i) (by simp_all);have:i ∈ leftOf ops listed:=by simp only [leftOf,qA6,qHj,G];exact⟨u,rfl⟩
   simp_all
 | succ f ih =>
  intro listed S a w I aj H D M h;refine⟨fun h0=>?_,fun i hi=>?_⟩
  ·
   cases T:leftOf ops listed with
   | nil=>simp_all
   | cons i r =>
    have p:i ∈ leftOf ops listed:=by rw [T];exact x6
    have an:=p;simp only [leftOf,qA6,qHj,qMv] at p;have am:∀ j,j < i->listed.getD j true=true:=fun j J=>by
     by_cases al:listed.getD j true=true
     ·omega
     ·have n:j ∈ leftOf ops listed:=by simp only [leftOf,qA6,qHj];exact⟨by omega,by simp_all⟩
      have q:(leftOf ops listed).Pairwise (· < ·):=qOd _ qO6;rw [T] at n q;rcases xb.1 n with rfl | n
      ·omega
      ·have:=(vt.1 q).1 j n;omega
    have:i ∈ Region.ready md ops listed:=qe2 p.1 p.2 fun o F e z y=>by
     have u:=qah ae F z y;rw [Kx (by omega)];simp_all
    simp_all
  ·obtain⟨u,G,N⟩:=Kc hi;have p:i ∈ leftOf ops listed:=by simp only [leftOf,qA6,qHj,G];exact⟨u,rfl⟩
   obtain⟨A,B,x⟩:=qQp p;have q:(leftOf ops listed).Pairwise (· < ·):=qOd _ qO6;have ab:=W9 (P:=C.P) (hc:=hc) (ops:=ops) (K:=K) (i:=i) (A:=A) (B:=B) (S:=S) (fun j J=>by
    have ac:j < i:=by
     rw [x] at q;exact(qMl.1 q).2.2 j J i x6
    have n:j ∈ leftOf ops listed:=by rw [x];exact qQd _ J
    simp only [leftOf,qA6,qHj,qMv] at n;rcases YY aa i j ac u with h | h
    ·have:=qtx H ops.size i N j h;rw [qDn this] at n;simp_all
    omega) (by simp_all)
   refine qao (hd i) M (fun X Y w' W ak d=>?_) ab;have L:∀ k,(listed.setIfInBounds i true).getD k true=(if k=i then true else listed.getD k true):=fun k=>by
    by_cases d:k=i
    ·simp_all
    ·by_cases R:k < listed.size
     ·simp [Array.getD,R,d,qQx _ (qKh d)]
     simp_all
   have ad:leftOf ops (listed.setIfInBounds i true)=A++B:=by
    have e:leftOf ops (listed.setIfInBounds i true)=(leftOf ops listed).filter fun k=>decide (k ≠ i):=by
     unfold leftOf;rw [qO2];refine qN6 fun k _=>?_;rw [L];by_cases d:k=i <;> simp [d]
    rw [e,x];rw [x] at q;have U:(A++i::B).Nodup:=q.imp fun h=>qRu h;have af:i ∉ A:=fun Z=>(w4.1 U).2.2 i Z i x6 rfl;have ag:i ∉ B:=(js.1 (w4.1 U).2.1).1;rw [qQo,J0];simp only [ne_eq,not_true_eq_false,decide_false,kA,if_false];rw [qLv.2 fun k d=>by simpa using fun e=>af (by simp_all),qLv.2 fun k d=>by simpa using fun e=>ag (by simp_all)]
   refine ih (listed.setIfInBounds i true) X Y w' W (by simp_all) ?_ ?_ ak (by simp_all)
   ·intro k d o F e z y;have ai:∀ m,listed.getD m false=true->(listed.setIfInBounds i true).getD m false=true:=fun m p=>by
     have ao:m < listed.size:=by
      by_cases h:m < listed.size
      ·exact h
      ·simp_all
     rw [Kx (by simp_all),L];simp_all
    refine ai _ ?_;by_cases O:k=i
    ·subst O;exact N o F e z y
    ·have R:k < listed.size:=by
      by_cases h:k < listed.size
      ·exact h
      ·simp_all
     refine H k ?_ o F e z y;rw [Kx (by simp_all),L,if_neg O] at d;simp_all
   ·rw [ad];rw [x] at D;simp only [zr,List.length_cons] at D ⊢;omega
def Z5 (P:Program) (hc:Option Bool) (ops:Array Oper) (K:St->Prop):List Oper->St->Prop
 | [],S=>K S
 | o::r,S=>xi P hc ops o (Z5 P hc ops K r) S
theorem qgb {K:St->Prop}:∀ {l pre:List Oper} {S:St},ops=(pre++l).toArray->Z5 P hc ops K l S->qap P hc ops K ((List.range l.length).map (pre.length+·)) S
 | [],_,_,_,h=>h
 | o::l,pre,S,he,h=>by
  rw [qKg,List.range_succ_eq_map,z7,qN5];have j:ops[pre.length+0]? = some o:=by rw [he];simp
  simp only [qap,kC,j];refine vo h fun a d _ _=>?_;have:=qgb (pre:=pre++[o]) (l:=l) (S:=a) (by simp_all) d;have e:(fun i=>(pre++[o]).length+i)=((fun i=>pre.length+i) ∘ Nat.succ):=by
   funext i;simp;omega
  rw [<-e];omega
end
def xo (C:Ctx) (c:Code) (S:St) (Q:Exit->St->Prop):Prop :=
 ∀ a w I,Γ C S a w I->c.wpIn C.fe 0 C.P (fun e j k=>∃ d h,Γ C d j k h/\Q e d) a w
def kw (K:St->Prop) (Q:Exit->St->Prop):Exit->St->Prop
 | .normal,S=>K S
 | .exit i,S=>Q (.exit i) S
 | .goto l,S=>Q (.goto l) S
 | .ret,S=>Q .ret S
 | .panic c,S=>Q (.panic c) S
 | .outgrown,S=>Q .outgrown S
def XM (id:Nat) (Q:Exit->St->Prop):Exit->St->Prop
 | .normal,S=>Q .normal S
 | .exit i,S=>if i=id then Q .normal S else Q (.exit i) S
 | .goto l,S=>Q (.goto l) S
 | .ret,S=>Q .ret S
 | .panic c,S=>Q (.panic c) S
 | .outgrown,S=>Q .outgrown S
def qdj (Q:Exit->St->Prop):Exit->St->Prop
 | .goto _,_=>False
 | e,S=>Q e S
theorem xo.mono {C c S} {Q Q':Exit->St->Prop} (h:xo C c S Q) (o:∀ e S,Q e S->Q' e S):xo C c S Q' :=
 fun a w I p=>wpIn_mono (h a w I p) fun e _ _ ⟨d,j,k,n⟩=>⟨d,j,k,o e d n⟩
theorem xo.seq {C x y S Q} (h:xo C x S (kw (fun S'=>xo C y S' Q) Q)):xo C (.seq x y) S Q:=by
 intro a w I o;refine wpIn_seq (wpIn_mono (h a w I o) fun e j p ⟨S',d,k,n⟩=>?_);cases e with
 | normal=>exact n j p d k
 | _=>assumption
theorem xo.block {C id c S Q} (h:xo C c S (XM id Q)):xo C (.block id c) S Q:=by
 intro a w I p;refine wpIn_block (wpIn_mono (h a w I p) fun e q u ⟨n,k,o,d⟩=>?_);cases e with
 | exit i =>
  simp only [XM] at d;simp only [Exit.inBlock];split
  ·rename_i j;rw [if_pos j] at d;exact⟨n,k,o,d⟩
  ·rename_i j;rw [if_neg j] at d;exact⟨n,k,o,d⟩
 | _=>assumption
variable {P:Program} {a:Act} {w:World} {c:Code}
theorem qen {b:Frame} {k:List Item} {cs:List Frame} :step P (lone (b.atR a (.code (.scope c)::k)) cs w)=.next (lone (b.atR a (.code c::.inScope c::k)) cs w) :=
 step_lone_go (by rfl)
theorem V3 {b:Frame} {k:List Item} {cs:List Frame} :step P (lone (b.atR a (.inScope c::k)) cs w)=.next (lone (b.atR a k) cs w) :=
 step_lone_go (by rfl)
theorem ZZ {F:Fence} {n:Nat} {Q:Exit->Act->World->Prop} (h:c.wpIn F n P (Exit.noGoto Q) a w):(Code.scope c).wpIn F n P Q a w:=by
 intro b k u C x y;obtain⟨e,o,q,j,d⟩:=h b (.inScope c::k) u C x y;have p:StepsIn (Machine.fenced P F) P (lone (b.atR a (.code (.scope c)::k)) u w) (lone (b.atR a (.code c::.inScope c::k)) u w):=.one (fenced_calm x y rfl) qen;cases e with
 | normal=>exact⟨.normal,o,q,j,.of_steps p (.of_steps (e:=.normal) d (.one (fenced_calm x y rfl) V3))⟩
 | exit id=>exact⟨.exit id,o,q,j,.of_steps p ⟨fun D z=>d.1 D (by assumption),fun A z=>d.2 A (by assumption)⟩⟩
 | goto l=>exact j.elim
 | ret=>exact⟨_,o,q,j,.of_steps p d⟩
 | panic G=>exact⟨_,o,q,j,.of_steps p d⟩
 | outgrown=>exact⟨_,o,q,j,.of_steps p d⟩
theorem xo.scope {C c S Q} (h:xo C c S (qdj Q)):xo C (.scope c) S Q:=by
 intro a w I d;refine ZZ (wpIn_mono (h a w I d) fun e n q ⟨k,j,o,p⟩=>?_);cases e with
 | goto l=>assumption
 | _=>assumption
theorem xo.cond {C c x y S Q} {b:Bool} (hc:ev S.σ c=.lit (.bool b)) (h:if b=true then xo C x S Q else xo C y S Q):xo C (.cond c x y) S Q:=by
 intro a w I d;have r:=d.ev c;rw [hc] at r;simp only [V.rep] at r;cases b
 ·exact wpIn_cond_false r (h a w I d)
 ·exact wpIn_cond_true r (h a w I d)
theorem xo.loop {C c S Q} (J:Nat->St->Prop) (n:Nat) (K:J n S) (round:∀ n S,J n S->xo C c S (kw (fun S'=>∃ m,m < n/\J m S') Q)):xo C (.loop c) S Q:=by
 intro a w I F b k z R A D;have key:∀ n S a w I,Γ C S a w I->J n S ->
   ∃ e u y,(∃ S' d,Γ C S' u y d/\Q e S')/\ArrivesIn (Machine.fenced C.P C.fe) C.P (lone (b.atR a (.code c::.inLoop c::k)) z w) b k z e u y:=by
  intro n
  induction n using Nat.strongRecOn with
  | _ n T =>
   intro S a w I F L;obtain⟨e,o,q,⟨S',d,p,j⟩,h⟩:=round n S L a w I F b (.inLoop c::k) z R A D;cases e with
   | normal =>
    obtain⟨m,O,M⟩:=j;obtain⟨H,G,U,P,N⟩:=T m O S' o q d p M;exact⟨H,G,U,P,.of_steps (StepsIn.trans h (.one (fenced_calm A D rfl) stepR_inLoop)) N⟩
   | exit id=>exact⟨_,o,q,⟨S',d,p,j⟩,.pass (x:=.inLoop c) rfl (fun _ _=>.inl (by simp)) h⟩
   | goto l=>exact⟨_,o,q,⟨S',d,p,j⟩,.pass (x:=.inLoop c) rfl (fun _ _=>.inl (by simp)) h⟩
   | ret=>exact⟨_,o,q,⟨S',d,p,j⟩,.pass (x:=.inLoop c) rfl (fun _ _=>.inl (by simp)) h⟩
   | panic W=>exact⟨_,o,q,⟨S',d,p,j⟩,.pass (x:=.inLoop c) rfl (fun _ _=>.inl (by simp)) h⟩
   | outgrown=>exact⟨_,o,q,⟨S',d,p,j⟩,.pass (x:=.inLoop c) rfl (fun _ _=>.inl (by simp)) h⟩
 obtain⟨e,u,y,j,h⟩:=key n S a w I F K;exact⟨e,u,y,j,.of_steps (.one (fenced_calm A D rfl) stepR_loop) h⟩
variable {ops:Array Oper}
theorem xo.region {C id S Q} (hd:∀ o ∈ ops.toList,zH C.N o=true) (h:Xb C.P ops (Q .normal) ops.toList S):xo C (.region id ops false) S Q:=by
 intro a w I k;exact wpIn_region_list (ZX (fun e p q d n j=>⟨e,d,n,j⟩) ops.toList S a w I hd k h)
theorem xo.draw {C id S Q} (n:Nat) (x:C.P.follows .mixedOrders=true) (A:qog ops n=true) (hd:∀ o ∈ ops.toList,zH C.N o=true)
  (h:XG C.P ops (fun S'=>Xb C.P ops (Q .normal) (ops.toList.drop n) S') (ops.toList.take n) S):xo C (.region id ops true) S Q:=by
 intro a w I z;have:=JU (l:=ops.toList) (id:=id) (Q:=fun e j k=>∃ S' d,Γ C S' j k d/\Q e S') n x (by omega) hd z (fun S'=>Xb C.P ops (Q .normal) (ops.toList.drop n) S')
  (fun S' j k d p q=>by
   have:=ZX (C:=C) (ops:=ops) (Q:=fun e j k=>∃ S' d,Γ C S' j k d/\Q e S') (fun S' j k d p u=>⟨S',d,p,u⟩) (ops.toList.drop n) S' j k d (fun o y=>hd o (qEu y)) p q;omega) (by omega)
 omega
variable {C:Ctx}
theorem xo.mixed {id:Nat} {S:St} {Q:Exit->St->Prop} (hc:Option Bool) (z:C.P.follows .mixedOrders=true) (j:YK hc ops=true) (hd:∀ o ∈ ops.toList,zH C.N o=true)
  (h:Z5 C.P hc ops (Q .normal) ops.toList S):xo C (.region id ops true) S Q:=by
 intro a w I d;simp only [YK,k7] at j;refine wpIn_region_any z ?_;have G:∀ i,(Array.replicate ops.size false).getD i false=false:=fun i=>by
  by_cases h:i < ops.size <;> simp [Array.getD,h]
 have F:leftOf ops (Array.replicate ops.size false)=List.range ops.size:=by
  unfold leftOf;refine qLv.2 fun i k=>?_;have:=qHj.1 k;simp [Array.getD,this]
 have x:=qgb (P:=C.P) (hc:=hc) (ops:=ops) (K:=Q .normal) (l:=ops.toList) (pre:=[]) (S:=S) (by simp) h;have u:(List.range ops.toList.length).map (([]:List Oper).length+·)=List.range ops.size:=by simp
 rw [u] at x;exact JW (C:=C) (hc:=hc) (K:=Q .normal) (Q:=fun e q D=>∃ n p,Γ C n q D p/\Q e n) j.1 j.2
  (fun i o A=>hd o (by obtain⟨k,e⟩:=vx.1 A;rw [<-e];simp)) (fun S a w I d y=>⟨S,I,d,y⟩) ops.size _ S a _ I (by simp)
  (fun i k=>by simp_all) (by simp_all) ⟨d.1.mono (qV.drew (fun _=>True) w I).stays,d.2.quiet (fun _=>True) (fun _ _=>trivial) (qV.drew _ w I) d.2.heap.inn⟩ (by simp_all)
def kL (o:Oper):Bool :=
 match o.op with
 | .alloc _ | .box _ _ | .store _ _ _ | .makeSlice _ _ _ | .makeMap _ _ | .lookup _ _ _ _ | .mapUpdate _ _ _ _ | .makeInterface _ _ | .mapEntry _ _ _ | .entryStore _ _ _ _ | .range _ _ | .next _ _ | .entry _=>false
 | .call c=>match c.callee with
  | .builtin .append | .builtin .copy | .invoke _ _=>false
  | _=>true
 | _=>true
def Ue (ops:List Oper):Nat:=(ops.takeWhile kL).length
def Zl:List (Nat × Nat)->Nat->Nat
 | [],_=>0
 | (i,m)::r,j=>if i=j then m else Zl r j
def xH (N:Nat) (M:List (Nat × Nat)):Code->Bool
 | .seq x y=>xH N M x && xH N M y
 | .cond _ x y=>xH N M x && xH N M y
 | .block _ c | .scope c=>xH N M c
 | .region id ops d=>ops.toList.all (zH N) && (!d || match Zl M id with
  | 0=>qog ops (Ue ops.toList)
  | 1=>YK none ops
  | 2=>YK (some false) ops
  | 4=>YK (some true) ops
  | _=>true)
 | _=>true
def ue (C:Ctx):Code->St->(Exit->St->Prop)->Prop
 | .skip,S,Q=>Q .normal S
 | .label _,S,Q=>Q .normal S
 | .exit i,S,Q=>Q (.exit i) S
 | .ret,S,Q=>Q .ret S
 | .seq x y,S,Q=>ue C x S (kw (fun S'=>ue C y S' Q) Q)
 | .cond c x y,S,Q=>match ev S.σ c with
  | .lit (.bool b)=>if b=true then ue C x S Q else ue C y S Q
  | _=>False
 | .block id c,S,Q=>ue C c S (XM id Q)
 | .scope c,S,Q=>ue C c S (qdj Q)
 | .region _ ops false,S,Q=>Xb C.P ops (Q .normal) ops.toList S
 | .region id ops true,S,Q=>match Zl C.M id with
  | 0=>XG C.P ops (fun S'=>Xb C.P ops (Q .normal) (ops.toList.drop (Ue ops.toList)) S') (ops.toList.take (Ue ops.toList)) S
  | 1=>Z5 C.P none ops (Q .normal) ops.toList S
  | 2=>Z5 C.P (some false) ops (Q .normal) ops.toList S
  | 4=>Z5 C.P (some true) ops (Q .normal) ops.toList S
  | _=>xo C (.region id ops true) S Q
 | c,S,Q=>xo C c S Q
theorem wH (n:C.P.follows .mixedOrders=true):∀ (c:Code) (S:St) (Q:Exit->St->Prop),xH C.N C.M c=true->ue C c S Q->xo C c S Q:=by
 intro c
 induction c with
 | skip=>exact fun S Q _ h a w I j=>wpIn_skip ⟨S,I,j,h⟩
 | label l=>exact fun S Q _ h a w I j=>wpIn_label ⟨S,I,j,h⟩
 | exit i=>exact fun S Q _ h a w I j=>wpIn_exit ⟨S,I,j,h⟩
 | ret=>exact fun S Q _ h a w I j=>wpIn_ret ⟨S,I,j,h⟩
 | seq x y p q =>
  intro S Q d h;simp only [ue] at h;simp only [xH,k7] at d;refine xo.seq ((p S _ d.1 h).mono fun e z u=>?_);cases e with
  | normal=>exact q z Q d.2 u
  | _=>exact u
 | cond c x y p q =>
  intro S Q d h;simp only [ue] at h;simp only [xH,k7] at d;split at h
  ·rename_i b A;refine xo.cond A ?_;cases b
   ·exact q S Q d.2 h
   ·exact p S Q d.1 h
  ·exact h.elim
 | block id c o=>intro S Q d h;simp only [ue] at h;simp only [xH] at d;exact xo.block (o S _ d h)
 | region id ops draw =>
  intro S Q d h;simp only [xH,k7,qNh] at d;cases draw
  ·simp only [ue] at h;exact xo.region d.1 h
  ·simp only [ue] at h;have k:=d.2;simp only [qL3,qP4] at k;split at h <;> rename_i D <;> simp only [D] at k
   ·exact xo.draw _ n k d.1 h
   ·exact xo.mixed none n k d.1 h
   ·exact xo.mixed (some false) n k d.1 h
   ·exact xo.mixed (some true) n k d.1 h
   ·exact h
 | loop c _=>intro S Q _ h;simpa only [ue] using h
 | rangeFunc f F a b _ _=>intro S Q _ h;simpa only [ue] using h
 | scope c o=>intro S Q d h;simp only [ue] at h;simp only [xH] at d;exact xo.scope (o S _ d h)
 | goto l=>intro S Q _ h;simpa only [ue] using h
 | refuse G=>intro S Q _ h;simpa only [ue] using h
def Ua (P:Program) (S:St):List ResultVar->(List V->Prop)->Prop
 | [],k=>k []
 | .tmp t::r,k=>Ua P S r fun l=>k (S.σ t::l)
 | .cell t T::r,k=>atP S (S.σ t) fun cs=>loadK P T cs fun v=>Ua P S r fun l=>k (v::l)
theorem Wf {C:Ctx} {S:St}:∀ {rs:List ResultVar} {k:List V->Prop},Ua C.P S rs k->∃ l,k l/\∀ a w I,Γ C S a w I ->
  ∃ xs,(rs.mapM fun | .tmp t=>pure (a.tmps.getD t undef) | .cell t T=>do loadVar T (<-asAddr (a.tmps.getD t undef)):Sem (List Value)).run C.P w=.ok xs w/\V.reps w I l xs
 | [],k,h=>⟨[],h,fun a w I _=>⟨[],by simp,by simp [V.reps]⟩⟩
 | .tmp t::r,k,h=>by
  obtain⟨l,j,n⟩:=Wf (C:=C) (rs:=r) (k:=fun l=>k (S.σ t::l)) h;refine⟨_,j,fun a w I d=>?_⟩;obtain⟨xs,q,p⟩:=n a w I d;refine⟨a.tmps.getD t undef::xs,?_,by simp only [V.reps];exact⟨d.1.tmps t,p⟩⟩;simp_all
 | .cell t T::r,k,h=>by
  simp only [Ua] at h;obtain⟨A,h,u⟩:=qhx (C:=C) h;obtain⟨v,h,z⟩:=YO h;obtain⟨l,j,n⟩:=Wf (C:=C) (rs:=r) (k:=fun l=>k (v::l)) h;refine⟨_,j,fun a w I d=>?_⟩;obtain⟨b,o,e,y⟩:=u w I _ d.2 (d.1.tmps t);obtain⟨x,G,F⟩:=z w I b o y;obtain⟨xs,q,p⟩:=n a w I d;refine⟨x::xs,?_,by exact qD⟩;have D:(asAddr (a.tmps.getD t undef)).run C.P w=.ok ⟨b,o,none⟩ w:=by rw [e];rfl
  simp_all
def U8:List V->V
 | [v]=>v
 | l=>.tup l
def qjn (P:Program) (rs:List ResultVar) (Q:V->Bx->List Row->Prop) (S:St):Prop :=
 Ua P S rs fun l=>∃ v a d,Le (U8 l) v/\a.Sublist S.boxes/\d.Sublist S.rows/\Q v a d
def qp6 (P:Program) (rs:List ResultVar) (Q:V->Bx->List Row->Prop):Exit->St->Prop
 | .normal,S=>qjn P rs Q S
 | .ret,S=>qjn P rs Q S
 | _,_=>False
def S0 (args:List V) (a:Bx):St:=⟨fun i=>args.getD i .any,a,[]⟩
theorem qp7 {S:St} {fn:Func} {Q:V->Bx->List Row->Prop} {I:Cells} (A:Γ C S a w I) (h:qjn C.P fn.results.toList Q S) :
  ∃ x v j k,(results fn a.tmps).run C.P w=.ok x w/\V.rep w I v x/\j.Sublist S.boxes/\k.Sublist S.rows/\Q v j k:=by
 obtain⟨l,⟨v,j,k,p,q,u,y⟩,z⟩:=Wf (C:=C) h;obtain⟨e,D,d⟩:=z a w I A;refine⟨if h:e.toArray.size=1 then e.toArray[0] else .tuple e.toArray,v,j,k,?_,?_,q,u,y⟩
 ·have key:results fn a.tmps=(do
    let o <-(Functor.map List.toArray (fn.results.toList.mapM fun | .tmp t=>pure (a.tmps.getD t undef) | .cell t T=>do loadVar T (<-asAddr (a.tmps.getD t undef))):Sem (Array Value))
    pure (if h:o.size=1 then o[0] else .tuple o)):=by
   unfold results;rw [qRk];rfl
  simp_all
 ·refine p w I _ ?_
  match l,e,d with
  | [],[],_=>simp [U8,V.rep,V.reps]
  | [n],[x1],d=>simpa [U8,V.reps] using d
  | n::v2::l,x1::x2::e,d=>simpa [U8,V.rep] using d
  | [],_::_,d=>simp [V.reps] at d
  | _::_,[],d=>simp [V.reps] at d
  | [n],x1::x2::e,d=>simp [V.reps] at d
  | n::v2::l,[x1],d=>simp [V.reps] at d
theorem wX.sub {w I bs rows bs' rows'} (h:wX w I bs rows) (a:bs'.Sublist bs) (d:rows'.Sublist rows):wX w I bs' rows' :=
 ⟨fun p e=>h.bx p (a.subset e),fun r j=>h.rw r (d.subset j),(qMs (a.map _) (d.filterMap _)).nodup h.nodup,h.inn,h.glob⟩
theorem WE {D:Nat} {x y:Option (List Deferred)} (h:w.heap[D]? = some (.deferred x)) (b o:Nat):(w.putObj D (.deferred y)).cell? ⟨b,o,none⟩=w.cell? ⟨b,o,none⟩:=by
 unfold World.cell?;by_cases e:b=D
 ·subst e;have a:(w.putObj b (.deferred y)).heap[b]? = some (.deferred y):=World.putObj_heap_same (vx.1 h).1;simp_all
 ·have a:(w.putObj D (.deferred y)).heap[b]? = w.heap[b]? := World.putObj_heap_other e;simp_all
theorem xR.shut {w I b z} {D:Nat} {x:Option (List Deferred)} (h:xR w I b z) (j:w.heap[D]? = some (.deferred x)):xR (w.putObj D (.deferred none)) I b z:=by
 have A:b ≠ D:=fun e=>by
  subst e;exact h.notD j x rfl
 have k:(w.putObj D (.deferred none)).heap[b]? = w.heap[b]? := World.putObj_heap_other A;have n:XP w I (w.putObj D (.deferred none)) I:=fun b o y=>⟨y,WE j b o⟩;cases z with
 | c C =>
  obtain⟨arr,e,p,a,q,d⟩:=h;exact⟨arr,e,by simp_all,a,V.reps_monoC n _ _ q,d⟩
 | m F es clock =>
  obtain⟨arr,p,a,d,u⟩:=h;exact⟨arr,by simp_all,a,V.reps_monoC n _ _ d,u⟩
 | it G since seen last=>exact⟨by rw [k];exact h.1,h.2⟩
 | obj x=>exact⟨by rw [k];exact h.1,h.2⟩
theorem Γ.shut {S:St} {I:Cells} {D:Nat} {ds:List Deferred} (h:Γ C S { a with defers:={ target:=.collected D,args:=#[] }::ds } w I) (q:w.heap[D]? = some (.deferred (some []))) (U:C.w0.heap.size<=D) :
  Γ C S { a with defers:=ds } (w.putObj D (.deferred none)) I:=by
 have G:XP w I (w.putObj D (.deferred none)) I:=fun b o j=>⟨j,WE q b o⟩;have N:∀ r ∈ S.rows,∀ g,r.x.ownBlock=some g->g ≠ D:=fun r u g k e=>by
  subst e;obtain⟨_,⟨W,X,y,n⟩,A⟩:=h.2.heap.rw r u;rcases n with n | ⟨R,cap,O,J,P,K,Q⟩
  ·rw [n.1] at k;cases k
  ·rw [J] at k;obtain rfl:=KL k;rw [K] at q;cases q
 refine⟨⟨h.1.size,⟨(js.1 h.1.defers.1).2,fun d hd=>?_⟩,fun i=>V.rep_monoC G _ _ (h.1.tmps i)⟩,⟨fun p M=>(h.2.heap.bx p M).shut q,fun r u=>(h.2.heap.rw r u).mono (fun g k=>World.putObj_heap_other (N r u g k)) (fun _ _ _ j=>j),h.2.heap.nodup,fun b o j=>by simpa using h.2.heap.inn b o j,h.2.heap.glob.monoC G⟩,h.2.mine,
  ⟨h.2.keeps.os,h.2.keeps.tape,h.2.keeps.output,by simpa using h.2.keeps.size,fun b F=>?_,⟨fun b o j=>⟨(h.2.keeps.stays.1 b o j).1,(WE q b o).trans (h.2.keeps.stays.1 b o j).2⟩,fun b x H=>?_⟩,h.2.keeps.old,h.2.keeps.drawn⟩,h.2.lo⟩
 ·obtain⟨z,y,n,A⟩:=h.1.defers.2 d (z8 _ hd);have L:z ≠ D:=fun e=>by
   subst e;rw [y] at hd;exact(js.1 h.1.defers.1).1 hd
  exact⟨z,y,n,(World.putObj_heap_other L).trans A⟩
 ·rw [World.putObj_heap_other (by have:=h.2.lo b F;omega)];exact h.2.keeps.block b F
 ·have T:=(vx.1 H).1;rw [World.putObj_heap_other (by omega)];exact h.2.keeps.stays.2 b x H
theorem Ok.of_body (M:List (Nat × Nat)) {f:FuncId} {fn:Func} {args:List V} {p:Bx} {Q:V->Bx->List Row->Prop} (hm:P.follows .mixedOrders=true) (X:P.funcs[f]? = some fn) (hb:fn.body=some c) (hn:args.length<=fn.ntmps) (Z:xH fn.ntmps M c=true)
  (h:∀ F w0 I0,ue { P:=P,N:=fn.ntmps,F:=F,w0:=w0,I0:=I0,M:=M } c (S0 args p) (qp6 P fn.results.toList Q)):Ok P f args p Q:=by
 intro w I q O W;have hl:=qM O;refine(callsIn_wide (n:=0)).1 (callsIn_of_wp_marks X hb trivial ?_)
 let C:Ctx:={ P:=P,N:=fn.ntmps,F:=fun b=>b < w.heap.size/\b ∉ p.map (·.1),w0:=w,I0:=I,M:=M }
 have aa:Γ C (S0 args p) { tmps:=q.toArray++Array.replicate (fn.ntmps - q.toArray.size) undef,defers:=[] } w I:=by
  refine⟨⟨by simp [C,hl];omega,⟨qOb,fun d hd=>by cases hd⟩,fun i=>?_⟩,⟨W,fun b hb=>?_,qV.refl _ _ _,fun b hb=>hb.1⟩⟩
  ·by_cases Y:i < args.length
   ·have L:i < q.length:=by omega
    obtain⟨v,R,e2⟩:=Kb O i _ (yb L);have:(q.toArray++Array.replicate (fn.ntmps - q.toArray.size) undef).getD i undef=q[i]:=by
     simp [Array.getElem?_append,L]
    simp only [S0,List.getD,R,Option.getD_some,this];omega
   ·simp only [S0,List.getD,qMa (Nat.le_of_not_lt Y),Option.getD_none,V.rep]
  ·simp only [qL,S0,List.filterMap_nil,wl] at hb;exact fun U=>U.2 hb
 refine wpIn_mono (wH (C:=C) hm c _ _ Z (h _ _ _) _ w I aa) fun e G a ⟨J,o,j,k⟩=>?_;have fin:∀ (y:List Deferred) (a:World),Γ C J { G with defers:=y } a o->qjn P fn.results.toList Q J->LeavesInM Fence.wide 0 P fn G.tmps (fun e a=>∃ x v u A o,e=.returned x/\V.rep a o v x/\qV (fun b=>b < w.heap.size/\b ∉ p.map (·.1)) w I a o/\wX a o u A/\(∀ b ∈ qL u A,¬ (b < w.heap.size/\b ∉ p.map (·.1)))/\Q v u A) y .returning a:=by
  intro y
  induction y with
  | nil =>
   intro a j k;obtain⟨x,v,u,A,S,H,z,K,T⟩:=qp7 (C:=C) j k;exact⟨x,S,x,v,u,A,o,rfl,H,j.2.keeps,j.2.heap.sub z K,fun b hb=>j.2.mine b ((qMs (z.map _) (K.filterMap _)).subset hb),T⟩
  | cons d y ih =>
   intro a j k;obtain⟨D,rfl,H,z⟩:=j.1.defers.2 d x6;exact⟨fun e=>(by cases e),.inl ⟨D,_,rfl,run_takeDeferred z,ih _ (j.shut z H) k⟩⟩
 cases e with
 | normal=>exact fin G.defers a j k
 | ret=>exact fin G.defers a j k
 | exit i=>assumption
 | goto l=>assumption
 | panic c=>exact k.elim
 | outgrown=>exact k.elim
def zk (P:Program) (f:FuncId) (args:List V) (v:V):Prop:=Ok P f args [] fun r a d=>r=v/\a=[]/\d=[]
theorem zk.v {P f args v} (h:zk P f args v):OkV P f args v:=h.mono fun _ _ _ ⟨e,_,_⟩=>e▸Le.refl _
end Go.VL
