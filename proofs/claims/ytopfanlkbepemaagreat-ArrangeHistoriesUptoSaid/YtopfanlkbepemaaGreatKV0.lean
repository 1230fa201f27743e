/- Merged out of my text V0. -/
import Derived.Test.YtopfanlkbepemaaGreatKV1
namespace Go.VL
abbrev globsV:List (Nat × List V):=[]
def globs:List (Nat × List V):=globsV
def gints:List Nat:=[0]
end Go.VL
