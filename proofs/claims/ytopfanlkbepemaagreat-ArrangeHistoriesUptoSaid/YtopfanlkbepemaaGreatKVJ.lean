/- Merged out of my text VJ. -/
import Derived.Test.YtopfanlkbepemaaGreatKVG
namespace Go.VL
open Go.RowKit Go.ChangeShapes Go.WideShapes
def goodN (P:Program) (g:TypeId→Bool) (t:TypeId):Bool:=match P.underlying t with
 | some .bool | some (.int _) | some .string=>decide (P.cellsOf t=1)
 | some (.slice e)=>decide (P.cellsOf t=1) && decide (0 < P.cellsOf e) && g e
 | some (.array n e)=>decide (P.cellsOf t=n * P.cellsOf e) && g e
 | some (.struct fs)=>decide (goodF P g 0 fs.toList=some (P.cellsOf t))
 | _=>false
def goodS (P:Program) (T:List TypeId):Bool:=T.all (goodN P fun t=>T.contains t)
theorem goodS_at {P:Program} {T:List TypeId} (h:goodS P T=true) {t:TypeId} (ht:T.contains t=true):goodN P (fun t=>T.contains t) t=true :=
 List.all_eq_true.1 h t (List.contains_iff_mem.1 ht)
section
variable {P:Program} {w:World} {I:Cells} {H:Type} {enc:TypeId × Value→H} {base:Nat} {spare:Nat→Bool} {held:Bool}
theorem trod_putR {T:List TypeId} (hT:goodS P T=true) (hI:∀ b o x,w.cell? ⟨b,o,none⟩=some x→I b o):∀ (fuel:Nat) (t:TypeId) (cs:List Value) (x:DataW H × List MemPlace),T.contains t=true→DataW.trod enc P w base spare held fuel t cs=some x→Put P w I fuel t cs (bulkD x.1)
 | 0,t,cs,x,_,h=>by simp [DataW.trod] at h
 | d+1,t,cs,x,hc,h=>by
  have hg:=goodS_at hT hc
  unfold goodN at hg
  split at hg
  ·rename_i hu
   obtain⟨b,rfl,rfl⟩:=DataW.trod_bool hu h
   exact⟨[.lit (.bool b)],by simp [V.reps,V.rep],by simp only [TV,hu];exact⟨b,rfl⟩,by simpa using (of_decide_eq_true hg).symm,by simp [one],by simp [V.bulks,V.bulk,bulkD]⟩
  ·rename_i k hu
   obtain⟨n,rfl,rfl,hw⟩:=DataW.trod_int hu h
   exact⟨[.lit (.int k n)],by simp [V.reps,V.rep],by simp only [TV,hu];exact⟨n,rfl,hw⟩,by simpa using (of_decide_eq_true hg).symm,by simp [one],by simp [V.bulks,V.bulk,bulkD]⟩
  ·rename_i hu
   obtain⟨s,rfl,rfl,hw⟩:=DataW.trod_string hu h
   exact⟨[.lit (.string s)],by simp [V.reps,V.rep],by simp only [TV,hu];exact⟨s,rfl,hw⟩,by simpa using (of_decide_eq_true hg).symm,by simp [one],by simp [V.bulks,V.bulk,bulkD]⟩
  ·rename_i e hu
   simp only [Bool.and_eq_true,decide_eq_true_eq] at hg
   obtain⟨⟨h1,hpos⟩,he⟩:=hg
   rcases DataW.trod_slice hu h with⟨rfl,rfl⟩ | ⟨a,len,cap,elems,rest,n,hfu,rfl,rfl,hb,hl,hm,hlen,hel,_,_⟩
   ·exact⟨[.lit (.slice none 0 0)],by simp [V.reps,V.rep],by simp only [TV,hu];exact .inl trivial,by simpa using h1.symm,by simp [one],by simp [V.bulks,V.bulk,bulkD]⟩
   ·obtain rfl:d=n:=Nat.succ.inj hfu
    have key:∃ es:List (List V),es.length=len∧(∀ x ∈ es,TV P d e x)∧(es=[]∨∃ b o,some a=some ⟨b,o,none⟩∧V.lies w I (P.cellsOf e) es b o)∧V.bulkss es≤bulkDs (elems.map (·.1)):=by
     by_cases hz:len=0
     ·exact⟨[],hz.symm,by simp,.inl rfl,by simp [V.bulkss]⟩
     ·have h0:=hel 0 (by omega)
      have hsome:∃ y,elems[0]? = some y:=⟨elems[0]'(by omega),by simp⟩
      obtain⟨y,hy⟩:=hsome
      rw [hy,Option.bind_eq_some_iff] at h0
      obtain⟨cs0,hcs0,_⟩:=h0
      obtain⟨_,hl0,hcell0⟩:=World.cells?_some hcs0
      obtain⟨b,o,spot⟩:=a
      have g0:=hcell0 0 hpos
      obtain⟨c0,hc0⟩:∃ c0,cs0[0]? = some c0:=⟨cs0[0]'(by omega),by simp⟩
      rw [hc0] at g0
      have hspot:spot=none:=by
       have:=World.cell?_spot g0
       cases spot with
       | none=>rfl
       | some q=>simp [Addr.add] at this
      subst hspot
      obtain⟨es,xs,l1,t1,r1,c1,b1⟩:=slice_put (c:=P.cellsOf e) (b:=b) (o:=o) hI (fun t cs x=>trod_putR hT hI d t cs x) he rfl len 0 elems hlen (by simpa using hel)
      refine⟨es,l1,fun x hx=>(t1 x hx).1,.inr ⟨b,o,rfl,?_⟩,b1⟩
      refine lies_of_cells r1 (fun x hx=>(t1 x hx).2) fun i x hx=>?_
      have:=c1 i x hx
      simpa using this
    obtain⟨es,l1,t1,h2,b1⟩:=key
    refine⟨[.list none (P.cellsOf e) es],?_,?_,by simpa using h1.symm,by simp [one],?_⟩
    ·simp only [V.reps,V.rep,and_true]
     exact⟨(fun y hy=>by cases hy),some a,cap,by rw [l1],by omega,h2⟩
    ·simp only [TV,hu]
     exact .inr ⟨es,rfl,by omega,t1⟩
    ·simp only [V.bulks,V.bulk,bulkD];omega
  ·rename_i n e hu
   simp only [Bool.and_eq_true,decide_eq_true_eq] at hg
   obtain⟨hc,he⟩:=hg
   obtain⟨xs,m,hfu,rfl,hl,hxl,hd⟩:=DataW.trod_array hu h
   obtain rfl:d=m:=Nat.succ.inj hfu
   obtain⟨ess,l1,t1,r1,o1,b1⟩:=items_put (fun t cs x=>trod_putR hT hI d t cs x) he cs _ 0 xs hxl (by rw [hl,hc,Nat.zero_add]) (by simpa using hd)
   have hfl:=flatten_len (fun x hx=>(t1 x hx).2)
   refine⟨ess.flatten,by simpa using r1,?_,by rw [hfl,l1,hc],by simpa using o1,by simp only [bulkD];omega⟩
   simp only [TV,hu]
   exact⟨ess,l1,fun x hx=>(t1 x hx).1,rfl⟩
  ·rename_i fs hu
   simp only [decide_eq_true_eq] at hg
   obtain⟨xs,n,hfu,rfl,hl,hxl,hd⟩:=DataW.trod_struct hu h
   obtain rfl:d=n:=Nat.succ.inj hfu
   obtain⟨vs,r1,t1,l1,o1,b1⟩:=fields_put (fun t cs x=>trod_putR hT hI d t cs x) cs fs.toList 0 _ xs hg (by simpa using hxl) hl (fun i f hf=>hd i f (by simpa using hf))
   refine⟨vs,by simpa using r1,?_,by omega,by simpa using o1,by simp only [bulkD];omega⟩
   simp only [TV,hu]
   exact t1
  ·cases hg
def TAxs (P:Program):List TypeId→List V→Prop
 | [],[]=>True
 | t::ts,a::as=>(∃ d,TA P d t a)∧TAxs P ts as
 | _,_=>False
theorem TAxs.cons {t:TypeId} {ts:List TypeId}:∀ {l:List V},TAxs P (t::ts) l→∃ a r d,l=a::r∧TA P d t a∧TAxs P ts r
 | [],h=>h.elim
 | a::r,⟨⟨d,h⟩,h'⟩=>⟨a,r,d,rfl,h,h'⟩
theorem TAxs.nil:∀ {l:List V},TAxs P [] l→l=[]
 | [],_=>rfl
 | _::_,h=>h.elim
theorem arg_of_put {d n:Nat} {t:TypeId} {v:Value} {r:Reach} {b0:Nat} (hok:Value.okWide P w r b0 t v) (h:Put P w I d t v.cells.toList n):∃ a,V.rep w I a v∧TA P d t a∧V.bulkA a≤n:=by
 obtain⟨vs,r1,t1,l1,o1,b1⟩:=h
 have hagg:(∃ cs,v=.agg cs)→tag P t=some true→∃ a,V.rep w I a v∧TA P d t a∧V.bulkA a≤n:=fun⟨cs,e⟩ ht=>by
  subst e
  refine⟨.agg vs,?_,by unfold TA;simp only [ht];exact⟨vs,rfl,t1⟩,b1⟩
  simp only [V.rep]
  exact⟨cs,rfl,by simpa [Value.cells] using r1⟩
 have hone:(∃ b,vs=[b])→(∀ cs,v ≠ .agg cs)→tag P t=some false→(∀ b,vs=[b]→∀ l,b ≠ .agg l)→∃ a,V.rep w I a v∧TA P d t a∧V.bulkA a≤n:=fun⟨a,e⟩ hv ht hna=>by
  subst e
  have hc:v.cells.toList=[v]:=by
   cases v <;> simp [Value.cells]
   rename_i cs;exact absurd rfl (hv cs)
  rw [hc] at r1
  simp only [V.reps,and_true] at r1
  refine⟨a,r1,by unfold TA;simp only [ht];exact t1,?_⟩
  have:V.bulkA a=V.bulk a:=by
   cases a <;> first | rfl | exact absurd rfl (hna _ rfl _)
  simp only [V.bulks] at b1
  omega
 cases d with
 | zero=>exact t1.elim
 | succ d =>
  have t0:=t1
  simp only [TV] at t0
  split at t0
  ·rename_i hu
   obtain⟨b,rfl⟩:=t0
   refine hone ⟨_,rfl⟩ (fun cs e=>?_) (by simp [tag,hu]) (fun b e l=>by cases e;intro h;cases h)
   subst e;simp [Value.okWide,hu,Cell.okWide,Cell.ok] at hok
  ·rename_i k hu
   obtain⟨n,rfl,_⟩:=t0
   refine hone ⟨_,rfl⟩ (fun cs e=>?_) (by simp [tag,hu]) (fun b e l=>by cases e;intro h;cases h)
   subst e;simp [Value.okWide,hu,Cell.okWide,Cell.ok] at hok
  ·rename_i hu
   obtain⟨n,rfl,_⟩:=t0
   refine hone ⟨_,rfl⟩ (fun cs e=>?_) (by simp [tag,hu]) (fun b e l=>by cases e;intro h;cases h)
   subst e;simp [Value.okWide,hu,Cell.okWide,Cell.ok] at hok
  ·rename_i e hu
   have hv:∀ cs,v ≠ .agg cs:=fun cs e=>by subst e;simp [Value.okWide,hu,Cell.okWide,Cell.ok] at hok
   rcases t0 with rfl | ⟨es,rfl,_⟩
   ·exact hone ⟨_,rfl⟩ hv (by simp [tag,hu]) (fun b e l=>by cases e;intro h;cases h)
   ·exact hone ⟨_,rfl⟩ hv (by simp [tag,hu]) (fun b e l=>by cases e;intro h;cases h)
  ·rename_i n e hu
   refine hagg ?_ (by simp [tag,hu])
   simp only [Value.okWide,hu] at hok
   obtain⟨cs,h1,_⟩:=hok
   exact⟨cs,h1⟩
  ·rename_i fs hu
   refine hagg ?_ (by simp [tag,hu])
   simp only [Value.okWide,hu] at hok
   obtain⟨cs,h1,_⟩:=hok
   exact⟨cs,h1⟩
  ·exact t0.elim
theorem args_putR {T:List TypeId} (hT:goodS P T=true) (hI:∀ b o x,w.cell? ⟨b,o,none⟩=some x→I b o) {r:Reach} {b0 base:Nat} {spare:Nat→Bool} {held:Bool}:∀ {ts:List TypeId} {vs:List Value} {ds:List (DataW H)} {ps:List MemPlace},
  (∀ t ∈ ts,T.contains t=true)→(∀ (j:Nat) t v,ts[j]? = some t→vs[j]? = some v→Value.okWide P w r b0 t v)→DataW.TrodAll enc P w base spare held ts vs ds ps →
  ∃ as,V.reps w I as vs∧TAxs P ts as∧V.bulkAs as≤bulkDs ds
 | [],vs,ds,ps,_,_,h=>by
  obtain⟨rfl,rfl,rfl⟩:=trodAll_nil h
  exact⟨[],by simp [V.reps],trivial,by simp [V.bulkAs]⟩
 | t::ts,vs,ds,ps,hg,hok,h=>by
  obtain⟨v,vs1,dd,ds1,a,b,rfl,rfl,rfl,⟨fuel,h1⟩,h2⟩:=trodAll_cons h
  obtain⟨x,r1,t1,b1⟩:=arg_of_put (hok 0 t v rfl rfl) (trod_putR hT hI fuel t v.cells.toList (dd,a) (hg t List.mem_cons_self) h1)
  obtain⟨xs,r2,t2,b2⟩:=args_putR hT hI (fun t' ht'=>hg t' (List.mem_cons_of_mem _ ht')) (fun j t' v' hj hv=>hok (j+1) t' v' (by simpa using hj) (by simpa using hv)) h2
  have b1:V.bulkA x≤bulkD dd:=b1
  exact⟨x::xs,by simp only [V.reps];exact⟨r1,r2⟩,⟨⟨_,t1⟩,t2⟩,by simp only [V.bulkAs,bulkDs];omega⟩
end
theorem law_postR {T:List TypeId} {P:Program} {H:Type} {enc:TypeId × Value→H} {f:FuncId} {fn:Func} {s:ChangeSpec} {tb:TypeId} {fresh handsOn:Bool} (hvars:s.vars=[]) (hlaid:laidOutB P=true)
  (hT:goodS P T=true) (hgood:∀ t ∈ fn.params.toList,T.contains t=true∧P.readableRec t=true∧t < P.types.size) (hres:fn.resultTypes=#[tb]) (htb:P.underlying tb=some .bool)
  {W:World} {base:Nat} {args:Array Value} {ds gs:List (DataW H)} {before:List MemPlace}
  (hval:∀ (j:Nat) t v,fn.params[j]? = some t→args[j]? = some v→Value.okWide P W .any base t v)
  (hW:DataW.Whole enc P fn.params.toList s.vars false W args.toList ds gs before)
  (hspec:ds.length=fn.params.size→s.fn H (ds++[])={ results:=[.lit (.bool true)],args:=ds })
  (hglob:Glob W fun b _=>b < W.heap.size)
  (law:∀ as:List V,TAxs P fn.params.toList as→V.bulkAs as≤bulkDs ds→OkP P f as (.lit (.bool true))) :
  Calls P f args W fun e W'=>∃ v,e=.returned v∧s.post enc P fn false fresh handsOn false W args v W':=by
 have hlt:=hW.lt
 have hW':=hW
 obtain⟨p,q,hA,hV,rfl,_,_⟩:=hW
 rw [hvars] at hV
 obtain⟨rfl,rfl⟩:=trodVars_none hV
 simp only [List.append_nil] at hlt hW'
 have hI:∀ b o x,W.cell? ⟨b,o,none⟩=some x→(fun b _=>b < W.heap.size:Cells) b o:=fun b o x hx=>by
  unfold World.cell? at hx
  show b < W.heap.size
  by_cases h:b < W.heap.size
  ·exact h
  ·rw [Array.getElem?_eq_none (by simpa using h)] at hx;simp at hx
 obtain⟨as,r1,t1,b1⟩:=args_putR hT (I:=fun b _=>b < W.heap.size) hI (fun t ht=>(hgood t ht).1) (fun j t v hj hv=>hval j t v (by simpa using hj) (by simpa using hv)) hA
 have hlen:ds.length=fn.params.size:=by
  have:∀ {ts:List TypeId} {vs:List Value} {ds:List (DataW H)} {ps:List MemPlace},DataW.TrodAll enc P W 0 (fun _=>true) true ts vs ds ps→ds.length=ts.length:=by
   intro ts
   induction ts with
   | nil=>intro vs ds ps h;obtain⟨rfl,rfl,rfl⟩:=trodAll_nil h;rfl
   | cons t ts ih=>intro vs ds ps h;obtain⟨v,vs1,dd,ds1,a,b,rfl,rfl,rfl,_,h2⟩:=trodAll_cons h;simp [ih h2]
  simpa using this hA
 have hH:Heap W (fun b _=>b < W.heap.size) [] []:=⟨by simp,by simp,by simp [blks],fun b o h=>h,hglob⟩
 have ha:args.toList.toArray=args:=by simp
 have key:=law as t1 b1 W (fun b _=>b < W.heap.size) args.toList r1 hH
 rw [ha] at key
 refine key.mono fun e W' ⟨x,v,bs',rs',I',he,hv,hk,_,_,hQ⟩=>?_
 obtain⟨rfl,rfl,rfl⟩:=hQ
 simp only [V.rep] at hv
 subst hv
 refine⟨_,he,?_⟩
 have hb:Below W.heap.size W W':=⟨hk.os,hk.tape,hk.output,hk.size,fun b hb=>hk.block b ⟨hb,by simp⟩⟩
 have htr:∀ (b:Nat) (sp:Nat→Bool) (hd:Bool),DataW.TrodAll enc P W' b sp hd fn.resultTypes.toList ((Value.bool true).resultList fn.resultTypes.size) [.lit (.bool true)] []:=fun b sp hd=>by
  rw [hres]
  exact trodAll_mk1 ⟨1,by simp [DataW.trod,htb,Value.cells]⟩
 have hargs:=args_stay hlaid hb (sp:=fun b=>decide (b < W.heap.size)) (fun t ht=>(hgood t ht).2) hlt (fun p hp=>by simpa using hlt p hp) hA
 refine⟨ds,[],p,[],p,[],hW',?_,?_,?_,?_,fun h=>by cases h⟩
 ·rw [hspec hlen];exact htr _ _ _
 ·rw [hspec hlen];exact hargs
 ·rw [hspec hlen,hvars];rfl
 ·exact World.keptBut_mono (fun p hp=>hp.elim) (hb.frame fun _=>False)
end Go.VL
