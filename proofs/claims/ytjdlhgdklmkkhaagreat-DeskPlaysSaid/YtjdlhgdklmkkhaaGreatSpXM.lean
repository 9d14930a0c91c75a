import Derived.Test.YtjdlhgdklmkkhaaGreatSpFTy
set_option linter.unusedVariables false
namespace Go.VI
open Go
def Qb:gR × Unit->Option ((Bool × Unit) × (gR × Unit))
 | (a,_)=>some ((a.v != 0,()),(a,()))
def Gl:gR × Bool × Bool × Unit->Option ((Bool × Unit) × (gR × Unit))
 | (a,o,n,_)=>if o=false/\n=true then (if a.v=0 then some ((true,()),(⟨1⟩,())) else some ((false,()),(a,()))) else none
def Ur:gT × Unit->Option ((Int × Unit) × (gT × Unit))
 | (a,_)=>some ((a.v,()),(a,()))
def Rn:gT × Int × Unit->Option ((Int × Unit) × (gT × Unit))
 | (a,d,_)=>some ((IntKind.wrap .i64 (a.v+d),()),(⟨IntKind.wrap .i64 (a.v+d)⟩,()))
def eO4:Unit->Option ((Bool × Unit) × Unit)
 | _=>some ((true,()),())
end Go.VI
