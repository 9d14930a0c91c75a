import Derived.Test.YtjdlhgdklmkkhaaGreatK3FTy
set_option linter.unusedVariables false
namespace Go.VI
open Go
def bd7:ag5 × Unit→Option ((Bool × Unit) × (ag5 × Unit))
 | (a,_)=>some ((a.v != 0,()),(a,()))
def ao3:ag5 × Bool × Bool × Unit→Option ((Bool × Unit) × (ag5 × Unit))
 | (a,o,n,_)=>if o=false∧n=true then (if a.v=0 then some ((true,()),(⟨1⟩,())) else some ((false,()),(a,()))) else none
def aV8:af6 × Unit→Option ((Int × Unit) × (af6 × Unit))
 | (a,_)=>some ((a.v,()),(a,()))
def bd8:af6 × Int × Unit→Option ((Int × Unit) × (af6 × Unit))
 | (a,d,_)=>some ((IntKind.wrap .i64 (a.v+d),()),(⟨IntKind.wrap .i64 (a.v+d)⟩,()))
def dU1:Unit→Option ((Bool × Unit) × Unit)
 | _=>some ((true,()),())
end Go.VI
