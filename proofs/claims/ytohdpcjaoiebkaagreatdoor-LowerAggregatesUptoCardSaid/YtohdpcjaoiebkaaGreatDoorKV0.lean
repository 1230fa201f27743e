/- Merged out of my text V0. -/
import Derived.Test.YtohdpcjaoiebkaaGreatDoorKV1
set_option linter.unusedSimpArgs false
set_option linter.unusedVariables false
namespace Go.VL
def dnB:Bool:=false
def ntypes:Nat:=249
theorem qf:ntypes=249:=rfl
abbrev TyB:={ t:TypeId // t < ntypes }
abbrev globsV:List (Nat × List V):=[(3,[.lit (.int .u64 1),.lit (.int .u64 10),.lit (.int .u64 100),.lit (.int .u64 1000),.lit (.int .u64 10000),.lit (.int .u64 100000),.lit (.int .u64 1000000),.lit (.int .u64 10000000),.lit (.int .u64 100000000),.lit (.int .u64 1000000000),.lit (.int .u64 10000000000),.lit (.int .u64 100000000000),.lit (.int .u64 1000000000000),.lit (.int .u64 10000000000000),.lit (.int .u64 100000000000000),.lit (.int .u64 1000000000000000),.lit (.int .u64 10000000000000000),.lit (.int .u64 100000000000000000),.lit (.int .u64 1000000000000000000),.lit (.int .u64 10000000000000000000)]),(0,[.list none 1 [[.lit (.string ⟨#[99,111,117,110,116]⟩)],[.lit (.string ⟨#[115,117,109]⟩)],[.lit (.string ⟨#[109,101,97,110]⟩)],[.lit (.string ⟨#[109,105,110]⟩)],[.lit (.string ⟨#[109,97,120]⟩)],[.lit (.string ⟨#[102,105,114,115,116]⟩)],[.lit (.string ⟨#[108,97,115,116]⟩)],[.lit (.string ⟨#[100,105,115,116,105,110,99,116]⟩)],[.lit (.string ⟨#[113,117,97,110,116,105,108,101]⟩)],[.lit (.string ⟨#[100,101,99,97,121]⟩)]]]),(1,[.list none 1 [[.lit (.string ⟨#[45]⟩)],[.lit (.string ⟨#[110,111,116]⟩)],[.lit (.string ⟨#[110,117,108,108]⟩)]]]),(2,[.list none 1 [[.lit (.string ⟨#[43]⟩)],[.lit (.string ⟨#[45]⟩)],[.lit (.string ⟨#[42]⟩)],[.lit (.string ⟨#[47]⟩)],[.lit (.string ⟨#[61,61]⟩)],[.lit (.string ⟨#[33,61]⟩)],[.lit (.string ⟨#[60]⟩)],[.lit (.string ⟨#[60,61]⟩)],[.lit (.string ⟨#[97,110,100]⟩)],[.lit (.string ⟨#[111,114]⟩)]]])]
def qir:List (Nat × List V):=globsV
def qyn:List Nat:=[4]
end Go.VL
