/- Merged out of my texts N5 T7 T8. -/
import Derived.Test.YtkdgbjhbpbgdeaaGreatDoorKA
import Derived.Test.YtkdgbjhbpbgdeaaGreatDoorKf
import Derived.Test.YtkdgbjhbpbgdeaaGreatDoorKe
import Derived.Test.YtkdgbjhbpbgdeaaGreatDoorKb
import Derived.Test.YtkdgbjhbpbgdeaaGreatDoorKVc
import Derived.Test.YtkdgbjhbpbgdeaaGreatDoorRows
import Derived.JoinedCond
import GoSem.ClaimSeven
set_option linter.unusedSimpArgs false
set_option maxRecDepth 100000
set_option maxHeartbeats 4000000
set_option linter.unusedVariables false
open Go.Proofs.Tryz
open Go.VL Go.Ar Go.Lo Go.Nv Go.Sg Go.Nm
namespace Go.Proofs.YtkdgbjhbpbgdeaaGreatDoor
open Ses Arr
theorem qUn {l:List yg} (h:∀ i h,OkE l i h):∀ x ∈ l,x.kind=1->xz x.fact=true/\∀ v ∈ x.fact.fields,wQ v=0:=fun x e d=>by
 obtain⟨i,a,rfl⟩:=qOu.1 e;exact⟨((h i a).2.2 d).1,((h i a).2.2 d).2.2⟩
theorem qo5 (l:List yg) (u:l.length<=1048576) (j:∀ e ∈ l,VR e):Ok prog 4 [xN l] [] fun v a rs=>(∃ b:Bool,v=qq b/\(b=true->l.length<=60/\∀ x ∈ l,x.kind=1->xz x.fact=true/\∀ v ∈ x.fact.fields,wQ v=0))/\a=[]/\rs=[]:=by
 have o:=ql3 l (by unfold Go.Proofs.YtkdgbjhbpbgdeaaGreatDoor.big;omega) j;refine oE func4 fun F y p=>?_;refine qa ?_;by_cases h:(l.length:Int)<=60
 ·have q:=eq_true h;refine qa ?_;refine qr [] [] (zp _) o ?_;rintro v a rs ⟨⟨k,rfl,n⟩,rfl,rfl⟩;by_cases d:k=0
  ·have w:=eq_true d;refine qa ?_;exact r0 ⟨⟨true,rfl,fun _=>⟨by omega,qUn (n d).2⟩⟩,rfl,rfl⟩
  ·refine qa ?_;exact r0 ⟨⟨false,rfl,nofun⟩,rfl,rfl⟩
 ·refine qa ?_;exact r0 ⟨⟨false,rfl,nofun⟩,rfl,rfl⟩
theorem qU1 {l:List yg} {tick:Int} {c c':Cat} (n:∀ e ∈ l,VR e) (u:∀ e ∈ l,∀ v ∈ e.fact.fields,x5 v.n) (w:l.length<=60) (k:∀ x ∈ l,x.kind=1->xz x.fact=true/\∀ v ∈ x.fact.fields,wQ v=0) (hc:KT c) :
  ∃ j,World c ((Zv l tick).filter fun r=>!Un c' tick r) j/\∀ r ∈ (Zv l tick).filter fun r=>!Un c' tick r,∀ v ∈ r.fields,qco v:=by
 obtain⟨j,p⟩:=qTx hc.2.1;have q:Srt (Zv l tick):=qVm fun x d h=>(k x d (by unfold Qv at h;simp only [k7,decide_eq_true_eq] at h;exact h.2)).1;exact⟨j,⟨hc.1,km (qMu _ _) (km (qyp l tick) (by omega)),fun r a=>qvr n u (qA6.1 a).1,q.filter _,p⟩,fun r a=>qVb (fun x d o=>(k x d o).2) (qA6.1 a).1⟩
theorem qVe (f:Ftr):((cFtr f).drop 5).take 12=cE f.body:=by rw [qY];rfl
theorem qV0 (f:Ftr):(12<=((cFtr f).drop 5).length)=True:=eq_true (by rw [qs];exact Nat.le_of_ble_eq_true rfl)
abbrev quf (fs:List Ftr):List E:=fs.flatMap fun f=>qio f.body
theorem qSt {fs:List Ftr} (h:∀ f ∈ fs,kY f.body<=1000000):(quf fs).length<=fs.length * 1000000:=by
 induction fs with
 | nil=>simp
 | cons f fs e =>
  have j:=que f.body;have k:=h f (.head _);have a:=e fun g d=>h g (.tail _ d);simp only [quf] at a ⊢;rw [List.flatMap_cons,zr,qKg,qP8];omega
abbrev qSl (few:List Rw) (tb:Tab) (p:E) (v:Val) (j:Nat):Bool:=(decide (few.length=0) && decide (v=val0)) || (few.take j).any fun r=>decide (jT tb r p=v)
theorem qV1 {few:List Rw} {tb:Tab} {p:E} {g:List Val} (h:Ext (few.map fun r=>jT tb r p) g) {v:Val} (d:v ∈ g):qSl few tb p v few.length=true:=by
 unfold qSl;rw [xa (w3 _),qPn];by_cases a:few=[]
 ·left;rw [a];simp [h.nil (by rw [a];rfl) v d]
 ·right;obtain⟨r,j,e⟩:=x9.1 (h.mem (by simpa using a) v d);rw [qP6];exact⟨r,j,decide_eq_true e⟩
theorem qVf (few:List Rw) (tb:Tab) (p:E) (v:Val):qSl few tb p v 0=(decide ((few.length:Int)=0) && (decide (v.kind=0) && (decide (v.n=0) && decide (v.s=qH)))):=by
 unfold qSl;rw [List.take_zero,List.any_nil,qP3,<-qut v val0];congr 1;exact decide_eq_decide.2 (by omega)
theorem qVg {few:List Rw} (tb:Tab) (p:E) (v:Val) {j:Nat} (a:j < few.length):qSl few tb p v (j+1)=(qSl few tb p v j || decide (jT tb few[j] p=v)):=by
 unfold qSl;rw [zt a,qQ6,Bool.or_assoc];simp
def InC (c:Cat) (rows few:List Rw) (key:Str) (t:Int) (n:E) (x w:Val) (tb:Tab) (h:Hd) (p q:E) (cs:List V) (m u i g o a d e j k:Nat) (S:St):Prop :=
 S.boxes=[(k,.c (qS w)),(j,.c (qS x)),(e,.c (cE n)),(d,.c (cTab tb)),(a,.c (Go.Lo.cH h (kI [p,q]))),(g,.c cs),(o,.c (qT c))]/\S.σ 1=vstr key/\S.σ 2=vint t/\S.σ 9=ptr o/\S.σ 10=qZ rows/\S.σ 11=.lit (.slice (some ⟨g,0,none⟩) m u)/\S.σ 13=vint i/\S.σ 14=ptr a/\S.σ 15=qZ few/\S.σ 16=ptr d/\S.σ 18=ptr e/\S.σ 19=ptr j/\S.σ 20=ptr k
theorem qI6 (l:List yg) (key:Str) (t tick:Int) (bj:l.length<=1048576) (X:∀ e ∈ l,VR e) (hv:∀ e ∈ l,∀ v ∈ e.fact.fields,x5 v.n) :
  zk prog 3 [xN l,vstr key,vint t,vint tick] (qq true):=by
 refine Ok.of_exM [(18,1),(27,1)] Ty.mixed func3 rfl (by simp) (by kernel_rfl) fun F w0 I0=>?_;refine qa ?_;refine qr [] [] (zp _) (qo5 l bj X) ?_;rintro v U rs ⟨⟨bv,rfl,ba⟩,rfl,rfl⟩;cases bv
 ·exact qe
 obtain⟨bi,aT⟩:=ba rfl;refine qa ?_;refine qr [] [] (zp _) (qz2 l (by omega) X tick) ?_;rintro v U rs ⟨⟨c,rfl,O⟩,rfl,rfl⟩;refine qa ?_;refine fun z g9=>?_;replace g9:=zS g9;try simp only [Nb] at g9
 refine qa ?_;refine qF (qin l tick (by omega) X (fun x Q hk=>qlk (aT x Q hk).1) (km (qyp l tick) (by omega))) ?_;rintro v U rs ⟨⟨c',_,rfl⟩,rfl,rfl⟩;obtain⟨rk,W,aR⟩:=qU1 (tick:=tick) (c':=c') X hv bi aT O;generalize ((Zv l tick).filter fun r=>!Un c' tick r)=rows at W aR;have bx:=O.1.lf;have aX:=W.few;have br:=Ty.by41;refine qa ?_;refine zI Ty.mixed (by kernel_rfl) c.features.length (fun i S=>∃ u U,(LS (quf (c.features.take i)) u U/\z ∉ U.map (·.1))/\S.boxes=U++[(z,.c (qT c))]/\S.rows=[]/\S.σ 1=vstr key/\S.σ 2=vint t/\S.σ 9=ptr z/\S.σ 10=qZ rows/\S.σ 11=u/\S.σ 12=vint i) ⟨_,_,_,_,zc _,zc _,zp _,zp _,?_⟩
  (fun i S P ⟨u,U,⟨hL,hb⟩,A,d,J,K,C,D,M,aL⟩=>?_) (fun S ⟨u,U,⟨hL,hb⟩,A,d,J,K,C,D,M,aL⟩=>?_)
 ·exact⟨nilS,[],⟨LS.nil,by simp⟩,by exact qA⟩
 ·have aZ:=qj P;have aW:=zs P;have be:=(O.1.ff _ aW).1.2;have bA:=qSt (fs:=c.features.take i) fun f X=>O.1.sf f (qAq X);have bz:=O.1.sf _ aW;have aV:(c.features.take i).length<=32:=by rw [kB];omega
  have q:=qV7 c.features[i].body be (quf (c.features.take i)) u U hL (by omega);have hT:quf (c.features.take (i+1))=quf (c.features.take i)++qio c.features[i].body:=by
   rw [zt P,quf,List.flatMap_append];simp
  have gB:=vL (Y:=[(z,B.c (qT c))]) hb;rw [hT];rw [vE] at q;simp only [↓rA,rU,A,d,gB,C,M,aL,zq,P,qVe,qV0,simprocAttr];refine zB U [_] (zp _) q ?_;rintro v aO rs ⟨a6,rfl⟩ hN;have bb:z ∉ aO.map (·.1):=fun hm=>by
   rw [k8] at hN;exact(w4.1 hN).2.2 z hm z (by simp) rfl
  clear q hT;simp only [↓rA,rU,d,aL,aZ,simprocAttr];exact lP ⟨v,aO,⟨a6,bb⟩,by exact qA⟩
 rw [xa (w3 _)] at hL;have aQ:∀ a ∈ quf c.features,qWc c a/\uh a/\kY a<=1000000:=fun a ha=>by
  obtain⟨f,X,ha⟩:=List.mem_flatMap.1 ha;obtain⟨h1,h2⟩:=qVo f.body a ha;exact⟨O.2.2 f X a ha,h1 (O.1.ff f X).1.2,km h2 (O.1.sf f X)⟩
 have a8:=qSt O.1.sf;have bm:c.tables.length<=1000000:=W.tabs;generalize quf c.features=all at hL aQ a8;rcases hL with⟨rfl,rfl,rfl⟩ | ⟨g,cp,rest,bt,hr,rfl,rfl⟩
 ·refine qn ?_;refine qG Ty.mixed (by kernel_rfl) 0 (fun i S=>S.boxes=[(z,.c (qT c))]/\S.rows=[]/\S.σ 11=nilS/\S.σ 13=vint i) ⟨0,?_⟩ (fun i S P=>absurd P (qOe _)) (fun S ⟨A,d,M,Z⟩=>?_)
  ·exact qA
  ·refine qn ?_;refine qo _ qgt ?_;exact qe
 have aD:(g ≠ z/\z ≠ g):=by
  simp only [z7,Jx,kl] at hb;exact⟨fun e=>hb e.symm,hb⟩
 refine qn ?_;refine zI Ty.mixed (by kernel_rfl) all.length (fun i S=>S.boxes=[(g,.c ((all.map cE).flatten++rest)),(z,.c (qT c))]/\S.rows=[]/\S.σ 1=vstr key/\S.σ 2=vint t/\S.σ 9=ptr z/\S.σ 10=qZ rows/\S.σ 11=.lit (.slice (some ⟨g,0,none⟩) all.length cp)/\S.σ 13=vint i) ⟨_,_,_,_,zc _,zc _,zp _,zp _,?_⟩
  (fun i S P ⟨A,d,J,K,C,D,M,Z⟩=>?_) (fun S ⟨A,d,J,K,C,D,M,Z⟩=>?_)
 ·exact qA
 ·have aZ:=qj P;obtain⟨a7,al,aY⟩:=aQ _ (zs P);obtain⟨h,p,q,H,Q,k5,hp,hq,an⟩:=a7;have aE:=qSp all rest i P;rw [Q] at al aY;rw [Q,wI] at aE;simp only [↓rA,rU,A,d,aD,J,K,C,D,M,Z,zq,P,simprocAttr];have aP:=congrArg List.length aE;rw [kB] at aP;refine⟨km (Nat.le_of_eq aP.symm) (Nat.min_le_right _ _),fun R ah=>?_⟩;replace ah:=zS ah;try simp only [Nb] at ah
  have w:=aI aD ah;have aK:=qSa qho (l:=[p,q]) ⟨W.tabs,fun H an=>(O.1.ft H an).1,aX,W.row,al.args⟩ h key t (.inr W.srt);have aB:=qbv c h.table bm;rw [show Q4 c.tables h.table=some H from an] at aB;simp only [Option.getD_some,Option.isSome_some] at aB;have ay:=qT5 h p q;have aS:=qVi al qdp;have ao:=qVk W (h:=x7 h qdp) k5 aS key t;have aA:=UW _ aS (km (Vi _) (by simp only [uO,sizeEs] at aY ⊢;unfold Go.Proofs.YtkdgbjhbpbgdeaaGreatDoor.big;omega));have aJ:=fun o=>qUa h [p,q] o;have aC:=fun o=>qVk W (h:=x7 h o) k5 (qTh al o) key t;have ag:=qWp (rows:=rows) (p:=p) (q:=q) an (fun r hr=>qUh (aR r hr) q hq) key t;have bf:(zW c rows h [p,q] key t).length<=1000:=km JY aX;have aU:∀ r ∈ zW c rows h [p,q] key t,qdv r:=fun r hr=>W.row r (JX (.inr W.srt) hr).1;have bh:=O.1.ft H (qOc an);have bg:uh p:=al.args p (.head _);generalize zW c rows h [p,q] key t=I at aK ag bf aU;generalize exV c rows t (x7 h qdp) [exTrue,qhp p q] key=nv at ao ag;generalize bc:exV c rows t (x7 h qHp) [p,q] key=dv at ag;have az:=aC qHp;rw [bc] at az;have tn:∀ x:E,(cE x).take 12=cE x:=fun x=>xa (Nat.le_of_eq (qJz x));have ln:=fun x=>qJz x;have on:∀ x:E,yx (cE x)=true:=fun x=>by rw [qY];rfl
  generalize E.mk (x7 h qdp) [exTrue,qhp p q]=n at ay ao aA;simp only [vE,wI] at ay aJ aC az;have a1:∀ o,zk prog 11 [zO c,qZ rows,.agg (Go.Lo.cH (x7 h o) (kI [p,q])),vstr key,vint t] (.agg (qS (exV c rows t (x7 h o) [p,q] key))):=aC;simp only [vE] at ao aA;clear k5 Q hp hq aC;simp only [↓rA,rU,A,d,w,J,K,C,D,aE,simprocAttr];refine qo _ aK ?_;simp only [↓rA,rU,d,w,C,D,simprocAttr];refine qo _ aB ?_;simp only [↓rA,rU,d,w,C,D,simprocAttr];refine fun T ai=>?_;replace ai:=zS ai;try simp only [Nb] at ai
  have w:=aI w ai;refine qi _ ay ?_;refine qa ?_;refine fun au aj=>?_;replace aj:=zS aj;try simp only [Nb] at aj
  have w:=aI w aj;refine qi _ ao ?_;refine qa ?_;refine fun av ak=>?_;replace ak:=zS ak;try simp only [Nb] at ak
  have w:=aI w ak;simp only [↓qJ,↓zx,↓ua,↓wR,zw,qu,kM,vA,wB,jx,yd,ky,ub,kO,jA,jZ,zP,j1,yh,xB,Xu,yx,w3,eq_self,and_self,not_false_eq_true,ne_eq,z7,Jx,List.take_zero,qL1,qO3,List.length_cons,List.length_nil,List.nil_append,wl,List.toList_toArray,qJ0,qM9,Ty.sz37,w,simprocAttr];rw [zu];refine xe (fun S=>∃ ad,Nb ad [(av,.c []),(au,.c []),(T,.c []),(R,.c []),(g,.c []),(z,.c [])]/\InC c rows I key t n nv dv H h p q ((all.map cE).flatten++rest) all.length cp i g z R T au av ad S/\S.rows=[]/\S.σ 17=qq true) ?_ ?_
  ·refine qa ?_;refine qt _ (aJ qHp).v ?_;refine qa ?_;refine qt _ az.v ?_;refine qa ?_;refine fun ad L=>?_;replace L:=zS L;have bq:=L;try simp only [Nb] at L
   have w:=aI w L;refine qa ?_;refine⟨ad,⟨L.1,L.2.1,L.2.2.1,L.2.2.2.1,L.2.2.2.2.1,L.2.2.2.2.2.1⟩,?_⟩;unfold InC;exact qA
  rintro S ⟨ad,L,hI,d,bp⟩;simp only [Nb] at L;have w:=aI w L;clear aK aB ay ao az;rw [zu];refine xe (fun S=>InC c rows I key t n nv dv H h p q ((all.map cE).flatten++rest) all.length cp i g z R T au av ad S/\S.rows=[]/\S.σ 17=qq true/\S.σ 21=qq (jb t)) ?_ ?_
  ·obtain⟨A,J,K,C,D,M,Z,N,aa,ab,a2,a3,a4⟩:=hI;unfold jb;cases h0:decide (0<=t) <;> cases h1:decide (t<=1099511627776)
   all_goals refine qa ?_
   all_goals
    unfold InC;exact qA
  rintro S ⟨hI,d,bp,a5⟩;rw [zu];refine xe (fun S=>InC c rows I key t n nv dv H h p q ((all.map cE).flatten++rest) all.length cp i g z R T au av ad S/\S.rows=[]) ?_ ?_
  ·obtain⟨A,J,K,C,D,M,Z,N,aa,ab,a2,a3,a4⟩:=hI;cases ht:jb t
   ·rw [ht] at a5;refine qa ?_;unfold InC;exact qA
   ·rw [ht] at a5;obtain⟨rfl,k,rfl,bu,bw⟩:=ag.cnt ht;have bo:=uK I.length;have e1:¬ (I.length:Int) < (k:Int):=by omega
    have e2:decide ((k:Int)=0)=decide ((I.length:Int)=0):=decide_eq_decide.2 (by omega);refine qa ?_;refine qt _ aA.v ?_;generalize wx n=k6;by_cases k0:k6=0
    ·refine qa ?_;refine qt _ bo.v ?_;refine qa ?_;unfold InC;exact qA
    ·refine qa ?_;unfold InC;exact qA
  rintro S ⟨hI,d⟩;obtain⟨A,J,K,C,D,M,Z,N,aa,ab,a2,a3,a4⟩:=hI;have Q:=ag.ext;have w:=aI aD (aI ah ai);clear ag aA aj ak L;refine qa ?_;intro y1;generalize hG:(fun o=>exV c rows t (x7 h o) [p,q] key)=G at Q;have bn:∀ o,zk prog 11 [zO c,qZ rows,.agg (Go.Lo.cH (x7 h o) (kI [p,q])),vstr key,vint t] (.agg (qS (G o))):=fun o=>by rw [<-hG];exact a1 o
  clear a1 hG;refine xo.nilRow 23 3 37 (by rfl) (by decide) ?_;refine zI Ty.mixed (by kernel_rfl) 4 (fun k S=>∃ y,S.boxes=[(T,.c (cTab H)),(R,.c (Go.Lo.cH h (kI [p,q]))),(g,.c ((all.map cE).flatten++rest)),(z,.c (qT c))]/\S.rows=[⟨y,3,37⟩]/\S.σ 1=vstr key/\S.σ 2=vint t/\S.σ 9=ptr z/\S.σ 10=qZ rows/\S.σ 11=.lit (.slice (some ⟨g,0,none⟩) all.length cp)/\S.σ 13=vint i/\S.σ 14=ptr R/\S.σ 15=qZ I/\S.σ 16=ptr T/\S.σ 22=.list (some y1) 1 (qii.map fun o=>[vstr o])/\S.σ 23=.list (some y) 3 (((qii.take k).map G).map qS)/\S.σ 24=vint k) ⟨[(T,.c (cTab H)),(R,.c (Go.Lo.cH h (kI [p,q]))),(g,.c ((all.map cE).flatten++rest)),(z,.c (qT c))],[⟨nilv,3,37⟩],_,_,?_,?_,zp _,zp _,nilv,?_⟩
   (fun k S hk ⟨y,A,d,J,K,C,D,M,Z,N,aa,ab,ae,ap,ac⟩=>?_) (fun S ⟨y,A,d,J,K,C,D,M,Z,N,aa,ab,ae,ap,ac⟩=>?_)
  ·refine qB ?_;exact(((zc _).cons _).cons _).cons _
  ·refine qB ?_;exact List.Sublist.cons_cons _ (zn _)
  ·exact qA
  ·have a0:=qj hk;have ax:(k:Int) < 4:=by omega
   have am:([[vstr qL8],[vstr qL9],[vstr qAc],[vstr jD]]:List (List V)).getD k []=[vstr (qii[k]'hk)]:=by
    match k,hk with
    | 0,_ | 1,_ | 2,_ | 3,_=>rfl
   have aG:G (qii[k]'hk) ∈ qii.map G:=x9.2 ⟨_,zs hk,rfl⟩;have bl:((qii.take (k+1)).map G).map qS=((qii.take k).map G).map qS++[qS (G (qii[k]'hk))]:=by
    rw [zt hk,k8,k8];rfl
   rw [bl];generalize (qii[k]'hk)=o at am aG;have aV:((qii.take k).map G).length<=4:=by rw [zz,kB];exact Nat.min_le_right _ _
   generalize (qii.take k).map G=gs at aV ap;simp only [↓rA,rU,A,d,w,C,D,N,J,K,ae,ac,ax,am,simprocAttr];refine qt _ (aJ o).v ?_;simp only [↓rA,rU,A,d,w,C,D,N,J,K,ae,ac,ax,am,simprocAttr];refine qt _ (bn o).v ?_;generalize G o=v at aG;simp only [↓rA,rU,A,d,w,C,D,N,J,K,ae,ac,ax,am,simprocAttr];refine fun aM aw=>?_;replace aw:=zS aw;try simp only [Nb] at aw
   have w:=aI w aw;simp only [↓rA,rU,A,d,w,C,D,N,aa,ab,J,K,ae,ac,ax,am,simprocAttr];have aF:=qVf I H p v;have bd:qSl I H p v I.length=true:=qV1 Q aG;cases h0:decide ((I.length:Int)=0)
   all_goals
    rw [h0] at aF;simp only [Bool.false_and,qOa] at aF;simp only [↓rA,rU,A,d,w,simprocAttr];refine zI Ty.mixed (by kernel_rfl) I.length (fun j S=>S.boxes=[(aM,.c (qS v)),(T,.c (cTab H)),(R,.c (Go.Lo.cH h (kI [p,q]))),(g,.c ((all.map cE).flatten++rest)),(z,.c (qT c))]/\S.rows=[⟨y,3,37⟩]/\S.σ 1=vstr key/\S.σ 2=vint t/\S.σ 9=ptr z/\S.σ 10=qZ rows/\S.σ 11=.lit (.slice (some ⟨g,0,none⟩) all.length cp)/\S.σ 13=vint i/\S.σ 14=ptr R/\S.σ 15=qZ I/\S.σ 16=ptr T/\S.σ 22=.list (some y1) 1 (qii.map fun o=>[vstr o])/\S.σ 23=.list (some y) 3 (gs.map qS)/\S.σ 24=vint k/\S.σ 25=ptr aM/\S.σ 26=qq (qSl I H p v j)/\S.σ 27=vint j) ⟨_,_,_,_,zc _,zc _,zp _,zp _,?_⟩
     (fun j S hj ⟨A,d,J,K,C,D,M,Z,N,aa,ab,ae,ap,ac,aq,af,ar⟩=>?_) (fun S ⟨A,d,J,K,C,D,M,Z,N,aa,ab,ae,ap,ac,aq,af,ar⟩=>?_)
    ·rw [aF];exact qA
    ·have aH:=qj hj;have hR:=qb5 qho H I[j] bh.1 (aU _ (zs hj)) p bg;have bk:=qVg H p v hj;simp only [vE] at hR;rw [bk];cases hF:qSl I H p v j
     ·rw [hF] at af;simp only [↓rA,rU,A,d,w,N,aa,ab,aq,af,ar,aH,zq,hj,tn,ln,on,simprocAttr];refine qt _ hR.v ?_;simp only [↓rA,rU,A,d,w,aq,ar,aH,qut,simprocAttr];exact lP (by exact qA)
     ·rw [hF] at af;simp only [↓rA,rU,A,d,w,N,aa,ab,aq,af,ar,aH,zq,hj,simprocAttr];exact lP (by exact qA)
    ·rw [bd] at af;simp only [↓rA,rU,A,d,w,aa,ap,ac,aq,af,ar,a0,zq,WR,simprocAttr];refine fun y2=>xf ?_;simp only [↓rA,rU,d,ac,a0,simprocAttr];refine⟨by omega,fun y3=>⟨[(T,.c (cTab H)),(R,.c (Go.Lo.cH h (kI [p,q]))),(g,.c ((all.map cE).flatten++rest)),(z,.c (qT c))],[⟨y3,3,37⟩],_,_,?_,List.Sublist.cons_cons _ (zn _),zp _,zp _,y3,?_⟩⟩
     ·refine qB ?_;exact(zc _).cons _
     ·exact qA
  ·have l1:¬ 0 < cmpVal (G qL8) (G qL9):=Int.not_lt.2 Q.le1;have l2:¬ 0 < cmpVal (G qL8) (G qAc):=Int.not_lt.2 Q.le2;have l3:¬ 0 < cmpVal (G jD) (G qL9):=Int.not_lt.2 Q.le3;have c1:=qa5 (G qL8) (G qL9);have c2:=qa5 (G qL8) (G qAc);have c3:=qa5 (G jD) (G qL9);refine qn ?_;refine qt _ c1.v ?_;refine qa ?_;refine qt _ c2.v ?_;refine qa ?_;refine qt _ c3.v ?_;refine qa ?_;refine⟨[(g,.c ((all.map cE).flatten++rest)),(z,.c (qT c))],[],_,_,?_,zn _,zp _,zp _,by exact qA⟩;refine qB ?_;exact((zc _).cons _).cons _
 ·refine qn ?_;refine qo _ qgt ?_;exact qe
open Go.ChangeShapes
theorem qEo:(Rows.naiveCountsUptoRow.inPlace == prog.inPlace 3)=true:=by kernel_rfl
theorem qD5:(Rows.naiveCountsUptoRow.unfollowed == prog.unfollowed 3)=true:=by kernel_rfl
theorem qD9:(Rows.naiveCountsUptoRow.recurses == prog.recurses 3)=true:=by kernel_rfl
theorem qEf:(Rows.naiveCountsUptoRow.named == prog.varsNamed 3)=true:=by kernel_rfl
theorem qD1:(Rows.naiveCountsUptoRow.wf (OpenSpec.ofChange (Rows.OpenSpec.upto Rows.naiveCountsSpec).bare))=true:=by kernel_rfl
theorem qoa:(laidOutB prog)=true:=by kernel_rfl
theorem qEg:(mapsRowed prog)=true:=by kernel_rfl
theorem qD8:(Tryz.f3.params.all (prog.readableRec ·))=true:=by kernel_rfl
theorem qEe:(namedTie prog Rows.naiveCountsUptoRow.named (Rows.OpenSpec.upto Rows.naiveCountsSpec).bare.vars)=true:=by kernel_rfl
theorem qEa:(prog.stops == [])=true:=by kernel_rfl
theorem qEc:(prog.stopKnobs == [])=true:=by kernel_rfl
theorem qEh:(Rows.naiveCountsUptoRow.maps == (Tryz.f3.params.toList++(Rows.OpenSpec.upto Rows.naiveCountsSpec).bare.plain.varTypes prog).any (prog.mapsRec ·))=true:=by kernel_rfl
theorem qEq:(Rows.naiveCountsUptoRow.ifaces == (Tryz.f3.params.toList++(Rows.OpenSpec.upto Rows.naiveCountsSpec).bare.plain.varTypes prog).any (prog.ifacesRec ·))=true:=by kernel_rfl
theorem qEi:(Rows.naiveCountsUptoRow.mapsOut == prog.mapsAmong Tryz.f3.resultTypes.toList)=true:=by kernel_rfl
theorem qEn:(Rows.naiveCountsUptoRow.loops == (Tryz.f3.params.toList++(Rows.OpenSpec.upto Rows.naiveCountsSpec).bare.plain.varTypes prog).any (prog.loopsFrom ·))=true:=by kernel_rfl
theorem qD0:(Rows.naiveCountsUptoRow.wideKeys == (Tryz.f3.params.toList++(Rows.OpenSpec.upto Rows.naiveCountsSpec).bare.plain.varTypes prog++Tryz.f3.resultTypes.toList).any (prog.wideKeysFrom ·))=true:=by kernel_rfl
theorem qD2:((Rows.OpenSpec.upto Rows.naiveCountsSpec).bare.vars.all (prog.varReadable ·))=true:=by kernel_rfl
theorem qD7:(Tryz.f3.resultTypes.all (fun t=>prog.readableRec t && decide (t < prog.types.size)))=true:=by kernel_rfl
theorem qEp:(Rows.naiveCountsUptoRow.ifacesOut == Tryz.f3.resultTypes.toList.any (prog.ifacesRec ·))=true:=by kernel_rfl
theorem qEl:(Rows.naiveCountsUptoRow.loopsOut == Tryz.f3.resultTypes.toList.any (prog.loopsFrom ·))=true:=by kernel_rfl
theorem qEb:(Rows.naiveCountsUptoRow.plainKeys == prog.plainKeys)=true:=by kernel_rfl
theorem qD6:(prog.stopsHeard)=true:=by kernel_rfl
theorem qEk:(prog.mayEnter)=true:=by kernel_rfl
theorem qEm:(Rows.naiveCountsUptoRow.lifted == prog.liftsFinal)=true:=by kernel_rfl
theorem qEj:(prog.make == some Rows.naiveCountsUptoRow.make)=true:=by kernel_rfl
theorem qEd:(Rows.naiveCountsUptoRow.pinned == Rows.naiveCountsUptoRow.pinnedBy)=true:=by kernel_rfl
theorem qD4:(Rows.naiveCountsUptoRow.veiled == (Tryz.f3.params.toList++(Rows.OpenSpec.upto Rows.naiveCountsSpec).bare.plain.varTypes prog++Tryz.f3.resultTypes.toList).any (prog.veiledRec ·))=true:=by kernel_rfl
theorem qD3:(Rows.naiveCountsUptoRow.veiledFits prog Tryz.f3.params.toList (Tryz.f3.params.toList++(Rows.OpenSpec.upto Rows.naiveCountsSpec).bare.plain.varTypes prog++Tryz.f3.resultTypes.toList))=true:=by kernel_rfl
theorem qaw : prog.funcNamed "asof/asoflaw18.NaiveCounts" = some 3 := by kernel_rfl
theorem qln:prog.looks []=false:=by kernel_rfl
theorem qrw:prog.funcs.any Func.goes=false:=by kernel_rfl
theorem qct {P:Program} {c:OpenClaim} (h:P.funcs.any Func.goes=false) (j:c.start=.entering):c.goesBy P=false:=by
 unfold OpenClaim.goesBy Program.goesAt Program.goesFrom;rw [j,qP3];cases k:P.funcNamed c.func with
 | none=>rfl
 | some f =>
  show P.goes f=false;unfold Program.goes;rw [h,qPu,qP3,List.any_eq_false];intro g _;cases d:P.funcs[g]? with
  | none=>simp
  | some fn =>
   rw [Option.any_some];exact fun e=>by
    have a:P.funcs.any Func.goes=true:=Array.any_eq_true'.2 ⟨fn,qR1 d,e⟩;rw [h] at a;cases a
theorem qsa:false=Rows.naiveCountsUptoRow.goesBy prog:=(qct qrw rfl).symm
theorem ka {a b:Bool} (d:a=true) (hb:b=true):(a && b)=true:=by rw [d,hb];rfl
end Go.Proofs.YtkdgbjhbpbgdeaaGreatDoor
