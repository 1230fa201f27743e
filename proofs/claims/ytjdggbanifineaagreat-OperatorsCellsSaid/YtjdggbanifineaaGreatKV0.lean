/- Merged out of my text V0. -/
import Derived.Test.YtjdggbanifineaaGreatKV1
namespace Go.VL
def ntypes:Nat:=256
theorem nt_is:ntypes=256:=rfl
abbrev TyB:={ t:TypeId // t < ntypes }
abbrev globsV:List (Nat × List V):=[]
def globs:List (Nat × List V):=globsV
def gints:List Nat:=[0]
end Go.VL
