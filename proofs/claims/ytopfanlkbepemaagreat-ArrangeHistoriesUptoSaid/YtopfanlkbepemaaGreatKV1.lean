/- Merged out of my text V1. -/
import Derived.WalkKit
namespace Go.VL
inductive V where
 | any
 | lit (v:Value)
 | agg (vs:List V)
 | list (own:Option Value) (k:Nat) (es:List (List V))
 | ref (vs:List V)
 | tup (vs:List V)
 deriving Inhabited
abbrev Cells:=Nat→Nat→Prop
def one:Value→Prop
 | .agg _=>False
 | .tuple _=>False
 | _=>True
mutual
def V.rep (w:World) (I:Cells):V→Value→Prop
 | .any,_=>True
 | .lit v,x=>x=v
 | .agg vs,x=>∃ xs,x=.agg xs∧V.reps w I vs xs.toList
 | .list own k es,x=>(∀ y,own=some y→x=y)∧∃ a c,x=.slice a es.length c∧es.length≤c∧(es=[]∨∃ b o,a=some ⟨b,o,none⟩∧V.lies w I k es b o)
 | .ref vs,x=>∃ b o,x=.pointer (some ⟨b,o,none⟩)∧V.ats w I vs b o
 | .tup vs,x=>∃ xs,x=.tuple xs∧V.reps w I vs xs.toList
def V.reps (w:World) (I:Cells):List V→List Value→Prop
 | [],[]=>True
 | v::vs,x::xs=>V.rep w I v x∧V.reps w I vs xs
 | [],_::_=>False
 | _::_,[]=>False
def V.ats (w:World) (I:Cells):List V→Nat→Nat→Prop
 | [],_,_=>True
 | v::vs,b,o=>(∃ x,w.cell? ⟨b,o,none⟩=some x∧I b o∧one x∧V.rep w I v x)∧V.ats w I vs b (o+1)
def V.lies (w:World) (I:Cells) (k:Nat):List (List V)→Nat→Nat→Prop
 | [],_,_=>True
 | e::es,b,o=>V.ats w I e b o∧e.length=k∧V.lies w I k es b (o+k)
end
def StaysC (w:World) (I:Cells) (w':World) (I':Cells):Prop:=∀ b o,I b o→I' b o∧w'.cell? ⟨b,o,none⟩=w.cell? ⟨b,o,none⟩
def Stays (w:World) (I:Cells) (w':World) (I':Cells):Prop:=(∀ b o,I b o→I' b o∧w'.cell? ⟨b,o,none⟩=w.cell? ⟨b,o,none⟩)∧∀ (b:Nat) x,w.heap[b]? = some (.deferred x)→w'.heap[b]? = some (.deferred x)
theorem Stays.refl (w:World) (I:Cells):Stays w I w I:=⟨fun _ _ h=>⟨h,rfl⟩,fun _ _ h=>h⟩
theorem Stays.trans {w I w' I' w'' I''} (h:Stays w I w' I') (h':Stays w' I' w'' I''):Stays w I w'' I'' :=
 ⟨fun b o hi=>⟨(h'.1 b o (h.1 b o hi).1).1,((h'.1 b o (h.1 b o hi).1).2).trans (h.1 b o hi).2⟩,fun b x hx=>h'.2 b x (h.2 b x hx)⟩
theorem Stays.of {w I w' I'} (h:∀ b o,I b o→I' b o∧w'.cell? ⟨b,o,none⟩=w.cell? ⟨b,o,none⟩) (hb:∀ b,b < w.heap.size→w'.heap[b]? = w.heap[b]?):Stays w I w' I' :=
 ⟨h,fun b x hx=>by rw [hb b (Array.getElem?_eq_some_iff.1 hx).1];exact hx⟩
theorem Stays.but {w I w' I'} (c:Nat) {o:Obj} (ho:w.heap[c]? = some o) (hd:∀ x,o ≠ .deferred x) (h:∀ b o,I b o→I' b o∧w'.cell? ⟨b,o,none⟩=w.cell? ⟨b,o,none⟩) (hb:∀ b,b ≠ c→w'.heap[b]? = w.heap[b]?):Stays w I w' I' :=
 ⟨h,fun b x hx=>by
  by_cases e:b=c
  ·subst e
   rw [ho] at hx
   exact absurd (Option.some.inj hx) (hd x)
  ·rw [hb b e];exact hx⟩
section
variable {w w':World} {I I':Cells}
mutual
theorem V.rep_monoC (hs:StaysC w I w' I'):∀ (v:V) (x:Value),V.rep w I v x→V.rep w' I' v x
 | .any,_,_=>by simp only [V.rep]
 | .lit v,x,h=>by simp only [V.rep] at h ⊢;exact h
 | .agg vs,x,h=>by
  simp only [V.rep] at h ⊢
  obtain⟨xs,h1,h2⟩:=h
  exact⟨xs,h1,V.reps_monoC hs vs _ h2⟩
 | .list own k es,x,h=>by
  simp only [V.rep] at h ⊢
  obtain⟨h1,a,c,h2,h3,h4⟩:=h
  exact⟨h1,a,c,h2,h3,h4.imp id fun⟨b,o,h5,h6⟩=>⟨b,o,h5,V.lies_monoC hs k es _ _ h6⟩⟩
 | .ref vs,x,h=>by
  simp only [V.rep] at h ⊢
  obtain⟨b,o,h1,h2⟩:=h
  exact⟨b,o,h1,V.ats_monoC hs vs _ _ h2⟩
 | .tup vs,x,h=>by
  simp only [V.rep] at h ⊢
  obtain⟨xs,h1,h2⟩:=h
  exact⟨xs,h1,V.reps_monoC hs vs _ h2⟩
theorem V.reps_monoC (hs:StaysC w I w' I'):∀ (vs:List V) (xs:List Value),V.reps w I vs xs→V.reps w' I' vs xs
 | [],[],_=>by simp only [V.reps]
 | v::vs,x::xs,h=>by
  simp only [V.reps] at h ⊢
  exact⟨V.rep_monoC hs v x h.1,V.reps_monoC hs vs xs h.2⟩
 | [],_::_,h=>by simp only [V.reps] at h
 | _::_,[],h=>by simp only [V.reps] at h
theorem V.ats_monoC (hs:StaysC w I w' I'):∀ (vs:List V) (b o:Nat),V.ats w I vs b o→V.ats w' I' vs b o
 | [],_,_,_=>by simp only [V.ats]
 | v::vs,b,o,h=>by
  simp only [V.ats] at h ⊢
  obtain⟨⟨x,h1,h2,h3,h4⟩,h5⟩:=h
  exact⟨⟨x,by rw [(hs b o h2).2];exact h1,(hs b o h2).1,h3,V.rep_monoC hs v x h4⟩,V.ats_monoC hs vs b (o+1) h5⟩
theorem V.lies_monoC (hs:StaysC w I w' I'):∀ (k:Nat) (es:List (List V)) (b o:Nat),V.lies w I k es b o→V.lies w' I' k es b o
 | _,[],_,_,_=>by simp only [V.lies]
 | k,e::es,b,o,h=>by
  simp only [V.lies] at h ⊢
  exact⟨V.ats_monoC hs e b o h.1,h.2.1,V.lies_monoC hs k es b (o+k) h.2.2⟩
end
end
section
variable {w w':World} {I I':Cells}
theorem V.rep_mono (hs:Stays w I w' I') (v:V) (x:Value) (h:V.rep w I v x):V.rep w' I' v x:=V.rep_monoC hs.1 v x h
theorem V.reps_mono (hs:Stays w I w' I') (vs:List V) (xs:List Value) (h:V.reps w I vs xs):V.reps w' I' vs xs:=V.reps_monoC hs.1 vs xs h
theorem V.lies_mono (hs:Stays w I w' I') (k:Nat) (es:List (List V)) (b o:Nat) (h:V.lies w I k es b o):V.lies w' I' k es b o:=V.lies_monoC hs.1 k es b o h
end
section
variable {w:World} {I:Cells}
theorem reps_length:∀ {vs:List V} {xs:List Value},V.reps w I vs xs→xs.length=vs.length
 | [],[],_=>rfl
 | _::vs,_::xs,h=>by simp only [V.reps] at h;simp [reps_length h.2]
 | [],_::_,h=>by simp only [V.reps] at h
 | _::_,[],h=>by simp only [V.reps] at h
theorem reps_get:∀ {vs:List V} {xs:List Value},V.reps w I vs xs→∀ (i:Nat) (x:Value),xs[i]? = some x→∃ v,vs[i]? = some v∧V.rep w I v x
 | [],[],_,i,x,h=>by simp at h
 | v::vs,y::xs,h,0,x,hx=>by
  simp only [V.reps] at h
  simp at hx;subst hx
  exact⟨v,rfl,h.1⟩
 | _::vs,_::xs,h,i+1,x,hx=>by
  simp only [V.reps] at h
  simpa using reps_get h.2 i x (by simpa using hx)
 | [],_::_,h,_,_,_=>by simp only [V.reps] at h
 | _::_,[],h,_,_,_=>by simp only [V.reps] at h
theorem ats_append:∀ {vs us:List V} {b o:Nat},V.ats w I (vs++us) b o↔V.ats w I vs b o∧V.ats w I us b (o+vs.length)
 | [],us,b,o=>by simp [V.ats]
 | v::vs,us,b,o=>by
  simp only [List.cons_append,V.ats,List.length_cons]
  rw [ats_append (vs:=vs),and_assoc,show o+1+vs.length=o+(vs.length+1) from by omega]
theorem ats_drop {vs:List V} {b o:Nat} (h:V.ats w I vs b o) (n:Nat) (hn:n≤vs.length):V.ats w I (vs.drop n) b (o+n):=by
 have:=ats_append (w:=w) (I:=I) (vs:=vs.take n) (us:=vs.drop n) (b:=b) (o:=o)
 rw [List.take_append_drop] at this
 have h2:=(this.1 h).2
 rwa [List.length_take,Nat.min_eq_left hn] at h2
theorem ats_take {vs:List V} {b o:Nat} (h:V.ats w I vs b o) (n:Nat):V.ats w I (vs.take n) b o:=by
 have:=ats_append (w:=w) (I:=I) (vs:=vs.take n) (us:=vs.drop n) (b:=b) (o:=o)
 rw [List.take_append_drop] at this
 exact(this.1 h).1
theorem lies_append:∀ {k:Nat} {es fs:List (List V)} {b o:Nat},V.lies w I k (es++fs) b o↔V.lies w I k es b o∧V.lies w I k fs b (o+es.length * k)
 | k,[],fs,b,o=>by simp [V.lies]
 | k,e::es,fs,b,o=>by
  simp only [List.cons_append,V.lies,List.length_cons]
  rw [lies_append (es:=es),show o+k+es.length * k=o+(es.length+1) * k from by rw [Nat.add_mul];omega]
  constructor
  ·rintro⟨h1,h2,h3,h4⟩;exact⟨⟨h1,h2,h3⟩,h4⟩
  ·rintro⟨⟨h1,h2,h3⟩,h4⟩;exact⟨h1,h2,h3,h4⟩
theorem lies_get:∀ {k:Nat} {es:List (List V)} {b o:Nat},V.lies w I k es b o→∀ (i:Nat) (e:List V),es[i]? = some e→V.ats w I e b (o+i * k)∧e.length=k
 | k,e::es,b,o,h,0,e',he=>by
  simp only [V.lies] at h
  simp at he;subst he
  simpa using ⟨h.1,h.2.1⟩
 | k,e::es,b,o,h,i+1,e',he=>by
  simp only [V.lies] at h
  have:=lies_get h.2.2 i e' (by simpa using he)
  rwa [show o+k+i * k=o+(i+1) * k from by rw [Nat.add_mul];omega] at this
 | k,[],b,o,h,i,e',he=>by simp at he
theorem ats_cell:∀ {vs:List V} {b o:Nat},V.ats w I vs b o→∀ (j:Nat) (v:V),vs[j]? = some v→∃ x,w.cell? ⟨b,o+j,none⟩=some x∧I b (o+j)∧one x∧V.rep w I v x
 | v::vs,b,o,h,0,v',hv=>by
  simp only [V.ats] at h
  simp at hv;subst hv
  simpa using h.1
 | v::vs,b,o,h,j+1,v',hv=>by
  simp only [V.ats] at h
  have:=ats_cell h.2 j v' (by simpa using hv)
  rwa [show o+1+j=o+(j+1) from by omega] at this
 | [],b,o,h,j,v',hv=>by simp at hv
end
end Go.VL
