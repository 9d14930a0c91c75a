/- What functions of the library, and one more, compute. -/
import Derived.Lib.Bytealg
import Derived.Test.YtojlppofmjkmhaaDoorXMt
set_option linter.unusedVariables false
namespace Go.VI
open Go
def x_strings_Cut : (List UInt8) × (List UInt8) × Unit → Option (((List UInt8) × (List UInt8) × Bool × Unit) × Unit)
  | (s, [c], _) => if s.length ≤ 1000000 then some (((cutC c s).1, (cutC c s).2.1, (cutC c s).2.2, ()), ()) else none
  | _ => none
def x_strings_IndexByte : (List UInt8) × Int × Unit → Option ((Int × Unit) × Unit)
  | (s, c, _) => if s.length ≤ 1000000 then some ((Lib.indexByte s c.toNat.toUInt8, ()), ()) else none
def numE (s : List UInt8) : Int × Bool := match numRd s with | some v => ((v : Int), true) | none => (0, false)
def x_text_number : (List UInt8) × Unit → Option ((Int × Bool × Unit) × Unit)
  | (s, _) => if s.length ≤ 1000000 then some (((numE s).1, (numE s).2, ()), ()) else none
end Go.VI
