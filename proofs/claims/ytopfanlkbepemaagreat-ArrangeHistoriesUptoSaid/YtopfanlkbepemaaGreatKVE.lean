/- Merged out of my text VE. -/
import Derived.Test.YtopfanlkbepemaaGreatKV17
import Derived.Test.YtopfanlkbepemaaGreatKVI
namespace Go.VL
open Go.RowKit
def eqT (P:Program) (t:TypeId):Option (List Sh):=if tag P t=some true∧P.eqGuardType P.depth t=false then eqSh P 12 t else none
theorem eqAgg_eql {P:Program} {t:TypeId} {sh:List Sh} (h:eqT P t=some sh) {l m:List Value} (hl:fitL sh l=true) (hm:fitL sh m=true):EqAgg P .eql t l m (veqL l m):=by
 unfold eqT at h
 split at h
 ·rename_i hh
  intro x y w
  have:=eq_law 12 t sh h 10000 (by omega) l m w hl hm
  simp only [mkV,hh.1,if_true] at this
  rw [Sem.run_bind,run_eqGuard_agg w .eql t x y _ _ hh.2,Result.andThen_ok,run_eql_struct,this,Result.andThen_ok]
 ·cases h
theorem eqAgg_neq {P:Program} {t:TypeId} {sh:List Sh} (h:eqT P t=some sh) {l m:List Value} (hl:fitL sh l=true) (hm:fitL sh m=true):EqAgg P .neq t l m (!veqL l m):=by
 unfold eqT at h
 split at h
 ·rename_i hh
  intro x y w
  have:=eq_law 12 t sh h 10000 (by omega) l m w hl hm
  simp only [mkV,hh.1,if_true] at this
  rw [Sem.run_bind,run_eqGuard_agg w .neq t x y _ _ hh.2,Result.andThen_ok,run_neq_struct,this,Result.andThen_ok]
 ·cases h
def litV:V→Value | .lit v=>v | _=>undef
def litB:V→Bool | .lit _=>true | _=>false
theorem vals_lit:∀ {vs:List V},vs.all litB=true→vals vs=some (vs.map litV)
 | [],_=>rfl
 | .lit v::r,h=>by
  simp only [List.all_cons,Bool.and_eq_true] at h
  simp [vals,vals_lit h.2,litV]
 | .any::_,h=>by simp [litB] at h
 | .agg _::_,h=>by simp [litB] at h
 | .list _ _ _::_,h=>by simp [litB] at h
 | .ref _::_,h=>by simp [litB] at h
 | .tup _::_,h=>by simp [litB] at h
theorem EqAgg.unique {P op t l m b b'} (h:EqAgg P op t l m b) (h':EqAgg P op t l m b'):b=b':=by
 have:=h (.const undef) (.const undef) default
 rw [h' (.const undef) (.const undef) default] at this
 simpa using this.symm
theorem EqK_eql {P:Program} {t:TypeId} {sh:List Sh} (h:eqT P t=some sh) (xs ys:List V) (k:V→Prop) (hx:(xs.all litB && fitL sh (xs.map litV))=true) (hy:(ys.all litB && fitL sh (ys.map litV))=true) :
  EqK P .eql t xs ys k=k (.lit (.bool (veqL (xs.map litV) (ys.map litV)))):=by
 simp only [Bool.and_eq_true] at hx hy
 refine propext ⟨fun⟨l,m,b,h1,h2,h3,h4⟩=>?_,fun hk=>⟨_,_,_,vals_lit hx.1,vals_lit hy.1,eqAgg_eql h hx.2 hy.2,hk⟩⟩
 rw [vals_lit hx.1] at h1;cases h1
 rw [vals_lit hy.1] at h2;cases h2
 rw [(eqAgg_eql h hx.2 hy.2).unique h3]
 exact h4
theorem EqK_neq {P:Program} {t:TypeId} {sh:List Sh} (h:eqT P t=some sh) (xs ys:List V) (k:V→Prop) (hx:(xs.all litB && fitL sh (xs.map litV))=true) (hy:(ys.all litB && fitL sh (ys.map litV))=true) :
  EqK P .neq t xs ys k=k (.lit (.bool (!veqL (xs.map litV) (ys.map litV)))):=by
 simp only [Bool.and_eq_true] at hx hy
 refine propext ⟨fun⟨l,m,b,h1,h2,h3,h4⟩=>?_,fun hk=>⟨_,_,_,vals_lit hx.1,vals_lit hy.1,eqAgg_neq h hx.2 hy.2,hk⟩⟩
 rw [vals_lit hx.1] at h1;cases h1
 rw [vals_lit hy.1] at h2;cases h2
 rw [(eqAgg_neq h hx.2 hy.2).unique h3]
 exact h4
def eqTB (P:Program) (t:TypeId) (l m:List Value):Bool:=match eqT P t with | some sh=>fitL sh l && fitL sh m | none=>false
theorem EqK_eql' {P:Program} {t:TypeId} (xs ys:List V) (k:V→Prop) (h:(xs.all litB && ys.all litB && eqTB P t (xs.map litV) (ys.map litV))=true):EqK P .eql t xs ys k=k (.lit (.bool (veqL (xs.map litV) (ys.map litV)))):=by
 simp only [Bool.and_eq_true] at h
 have h2:=h.2
 unfold eqTB at h2
 split at h2
 ·rename_i sh hs
  simp only [Bool.and_eq_true] at h2
  exact EqK_eql hs xs ys k (by simp [h.1.1,h2.1]) (by simp [h.1.2,h2.2])
 ·cases h2
theorem EqK_neq' {P:Program} {t:TypeId} (xs ys:List V) (k:V→Prop) (h:(xs.all litB && ys.all litB && eqTB P t (xs.map litV) (ys.map litV))=true):EqK P .neq t xs ys k=k (.lit (.bool (!veqL (xs.map litV) (ys.map litV)))):=by
 simp only [Bool.and_eq_true] at h
 have h2:=h.2
 unfold eqTB at h2
 split at h2
 ·rename_i sh hs
  simp only [Bool.and_eq_true] at h2
  exact EqK_neq hs xs ys k (by simp [h.1.1,h2.1]) (by simp [h.1.2,h2.2])
 ·cases h2
end Go.VL
