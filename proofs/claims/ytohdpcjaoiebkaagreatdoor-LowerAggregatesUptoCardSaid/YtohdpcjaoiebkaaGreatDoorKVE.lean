/- Merged out of my text VE. -/
import Derived.Test.YtohdpcjaoiebkaaGreatDoorKV17
import Derived.Test.YtohdpcjaoiebkaaGreatDoorKVI
set_option linter.unusedSimpArgs false
set_option linter.unusedVariables false
namespace Go.VL
open Go.RowKit
def eqT (P:Program) (t:TypeId):Option (List Sh):=if zN P t=some true∧P.eqGuardType P.depth t=false then yZ P 12 t else none
theorem Vm {P:Program} {t:TypeId} {sh:List Sh} (h:eqT P t=some sh) {l m:List Value} (hl:zk sh l=true) (hm:zk sh m=true):JC P .eql t l m (xx l m):=by
 unfold eqT at h
 split at h
 ·rename_i hh
  intro x y w
  have:=W6 12 t sh h 10000 (by omega) l m w hl hm
  simp only [JH,hh.1,if_true] at this
  rw [Sem.run_bind,run_eqGuard_agg w .eql t x y _ _ hh.2,Result.andThen_ok,run_eql_struct,this,Result.andThen_ok]
 ·cases h
theorem Vl {P:Program} {t:TypeId} {sh:List Sh} (h:eqT P t=some sh) {l m:List Value} (hl:zk sh l=true) (hm:zk sh m=true):JC P .neq t l m (!xx l m):=by
 unfold eqT at h
 split at h
 ·rename_i hh
  intro x y w
  have:=W6 12 t sh h 10000 (by omega) l m w hl hm
  simp only [JH,hh.1,if_true] at this
  rw [Sem.run_bind,run_eqGuard_agg w .neq t x y _ _ hh.2,Result.andThen_ok,run_neq_struct,this,Result.andThen_ok]
 ·cases h
def yU:V→Value | .lit v=>v | _=>undef
def Qq:V→Bool | .lit _=>true | _=>false
theorem kX:∀ {vs:List V},vs.all Qq=true→vals vs=some (vs.map yU)
 | [],_=>rfl
 | .lit v::r,h=>by
  simp only [List.all_cons,Bool.and_eq_true] at h
  simp [vals,kX h.2,yU]
 | .any::_,h=>by simp [Qq] at h
 | .agg _::_,h=>by simp [Qq] at h
 | .list _ _ _::_,h=>by simp [Qq] at h
 | .ref _::_,h=>by simp [Qq] at h
 | .tup _::_,h=>by simp [Qq] at h
theorem JC.unique {P op t l m b b'} (h:JC P op t l m b) (h':JC P op t l m b'):b=b':=by
 have:=h (.const undef) (.const undef) default
 rw [h' (.const undef) (.const undef) default] at this
 simpa using this.symm
theorem qw5 {P:Program} {t:TypeId} {sh:List Sh} (h:eqT P t=some sh) (xs ys:List V) (k:V→Prop) (hx:(xs.all Qq && zk sh (xs.map yU))=true) (hy:(ys.all Qq && zk sh (ys.map yU))=true) :
  EqK P .eql t xs ys k=k (.lit (.bool (xx (xs.map yU) (ys.map yU)))):=by
 simp only [Bool.and_eq_true] at hx hy
 refine propext ⟨fun⟨l,m,b,h1,h2,h3,h4⟩=>?_,fun hk=>⟨_,_,_,kX hx.1,kX hy.1,Vm h hx.2 hy.2,hk⟩⟩
 rw [kX hx.1] at h1;cases h1
 rw [kX hy.1] at h2;cases h2
 rw [(Vm h hx.2 hy.2).unique h3]
 exact h4
theorem qw4 {P:Program} {t:TypeId} {sh:List Sh} (h:eqT P t=some sh) (xs ys:List V) (k:V→Prop) (hx:(xs.all Qq && zk sh (xs.map yU))=true) (hy:(ys.all Qq && zk sh (ys.map yU))=true) :
  EqK P .neq t xs ys k=k (.lit (.bool (!xx (xs.map yU) (ys.map yU)))):=by
 simp only [Bool.and_eq_true] at hx hy
 refine propext ⟨fun⟨l,m,b,h1,h2,h3,h4⟩=>?_,fun hk=>⟨_,_,_,kX hx.1,kX hy.1,Vl h hx.2 hy.2,hk⟩⟩
 rw [kX hx.1] at h1;cases h1
 rw [kX hy.1] at h2;cases h2
 rw [(Vl h hx.2 hy.2).unique h3]
 exact h4
def qry (P:Program) (t:TypeId) (l m:List Value):Bool:=match eqT P t with | some sh=>zk sh l && zk sh m | none=>false
theorem qth {P:Program} {t:TypeId} (xs ys:List V) (k:V→Prop) (h:(xs.all Qq && ys.all Qq && qry P t (xs.map yU) (ys.map yU))=true):EqK P .eql t xs ys k=k (.lit (.bool (xx (xs.map yU) (ys.map yU)))):=by
 simp only [Bool.and_eq_true] at h
 have h2:=h.2
 unfold qry at h2
 split at h2
 ·rename_i sh hs
  simp only [Bool.and_eq_true] at h2
  exact qw5 hs xs ys k (by simp [h.1.1,h2.1]) (by simp [h.1.2,h2.2])
 ·cases h2
theorem qtg {P:Program} {t:TypeId} (xs ys:List V) (k:V→Prop) (h:(xs.all Qq && ys.all Qq && qry P t (xs.map yU) (ys.map yU))=true):EqK P .neq t xs ys k=k (.lit (.bool (!xx (xs.map yU) (ys.map yU)))):=by
 simp only [Bool.and_eq_true] at h
 have h2:=h.2
 unfold qry at h2
 split at h2
 ·rename_i sh hs
  simp only [Bool.and_eq_true] at h2
  exact qw4 hs xs ys k (by simp [h.1.1,h2.1]) (by simp [h.1.2,h2.2])
 ·cases h2
end Go.VL
