/- Merged out of my texts AD. -/
import Derived.Test.YtohdpcjaoiebkaaGreatDoorKVR
import Derived.Test.YtohdpcjaoiebkaaGreatDoorKVS
set_option linter.unusedSimpArgs false
set_option linter.unusedVariables false
namespace Go.Ar
open Go.VL
abbrev Str:=ByteArray
abbrev vint (n:Int):V:=.lit (.int .i64 n)
abbrev qv (b:Bool):V:=.lit (.bool b)
abbrev qm (s:Str):V:=.lit (.string s)
abbrev Q8 (xs:List Int):V:=.list none 1 (xs.map fun x=>[vint x])
abbrev kr (xs:List Str):V:=.list none 1 (xs.map fun x=>[qm x])
abbrev ptr (b:Nat):V:=.lit (.pointer (some ⟨b,0,none⟩))
abbrev nilS:V:=.lit (.slice none 0 0)
structure Val where
 kind:Int
 n:Int
 s:Str
 deriving DecidableEq
abbrev qc5 (v:Val):List V:=[vint v.kind,vint v.n,qm v.s]
def less (a b:Str):Bool:=Op.bytesLess a.data.toList b.data.toList
theorem zl {n:Int} (h:-9223372036854775808≤n) (h':n < 9223372036854775808):IntKind.i64.wrap n=n:=IntWalk.i64_in n ⟨h,by omega⟩
theorem qk {i N:Nat} (h:i < N) (hN:N≤9223372036854775807):IntKind.i64.wrap ((i:Int)+1)=((i+1:Nat):Int):=by
 rw [zl (by omega) (by omega)];rfl
theorem qa {v x:V} {bs:List (Nat × B)} {rs:List VL.Row} (h:v=x):∃ w bs' rs',Le v w∧bs'.Sublist bs∧rs'.Sublist rs∧w=x∧bs'=[]∧rs'=[] :=
 ⟨v,[],[],Le.refl _,List.nil_sublist _,List.nil_sublist _,h,rfl,rfl⟩
theorem qpm {v x:V} {bs:List (Nat × B)} {rs:List VL.Row} (h:Le v x):∃ w bs' rs',Le v w∧bs'.Sublist bs∧rs'.Sublist rs∧w=x∧bs'=[]∧rs'=[] :=
 ⟨x,[],[],h,List.nil_sublist _,List.nil_sublist _,rfl,rfl,rfl⟩
theorem qd {α:Type} (f:α→List V) (l:List α) (i:Nat) (h:i < l.length):(l.map f).getD i []=f l[i]:=by
 simp [List.getD,h]
end Go.Ar
