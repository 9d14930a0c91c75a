import Derived.Lib.Bytealg
import Derived.Test.YtngopicaeoapnaaGreatDoorKXMt
set_option linter.unusedVariables false
namespace Go.VI
open Go
def aL6 : (List UInt8) × (List UInt8) × Unit → Option (((List UInt8) × (List UInt8) × Bool × Unit) × Unit)
  | (s, [c], _) => if s.length ≤ 1000000 then some (((ac4 c s).1, (ac4 c s).2.1, (ac4 c s).2.2, ()), ()) else none
  | _ => none
def aq5 : (List UInt8) × Int × Unit → Option ((Int × Unit) × Unit)
  | (s, c, _) => if s.length ≤ 1000000 then some ((Lib.indexByte s c.toNat.toUInt8, ()), ()) else none
def ao8 (s : List UInt8) : Int × Bool := match al1 s with | some v => ((v : Int), true) | none => (0, false)
def aL7 : (List UInt8) × Unit → Option ((Int × Bool × Unit) × Unit)
  | (s, _) => if s.length ≤ 1000000 then some (((ao8 s).1, (ao8 s).2, ()), ()) else none
end Go.VI
