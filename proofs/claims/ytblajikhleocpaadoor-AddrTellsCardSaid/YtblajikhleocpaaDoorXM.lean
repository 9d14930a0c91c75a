/- What functions of the library, and two more, compute. -/
import Derived.Lib.Bytealg
import Derived.Test.YtblajikhleocpaaDoorFTy
set_option linter.unusedVariables false
namespace Go.VI
open Go
/-- A text's parts, as a sign parts them. -/
def splitC (c : UInt8) : List UInt8 → List (List UInt8)
  | [] => [[]]
  | x :: r => if x = c then [] :: splitC c r else match splitC c r with
    | h :: t => (x :: h) :: t
    | [] => [[x]]
def x_strings_Count : (List UInt8) × (List UInt8) × Unit → Option ((Int × Unit) × Unit)
  | (s, [c], _) => some ((((s.count c : Nat) : Int), ()), ())
  | _ => none
def x_strings_Split : (List UInt8) × (List UInt8) × Unit → Option (((List (List UInt8)) × Unit) × Unit)
  | (s, [c], _) => if s.length ≤ 1000000 then some ((splitC c s, ()), ()) else none
  | _ => none
def x_strings_IndexByte : (List UInt8) × Int × Unit → Option ((Int × Unit) × Unit)
  | (s, c, _) => if s.length ≤ 1000000 then some ((Lib.indexByte s c.toNat.toUInt8, ()), ()) else none
def x_ref06_parts : (List UInt8) × Int × Unit → Option (((List (List UInt8)) × Unit) × Unit)
  | (s, c, _) => if s.length ≤ 1000000 then some ((splitC c.toNat.toUInt8 s, ()), ()) else none
def digitC (n : Nat) : UInt8 := ([48, 49, 50, 51, 52, 53, 54, 55, 56, 57, 97, 98, 99, 100, 101, 102] : List UInt8).getD n 0
/-- A number's digits. -/
def numR (b : Nat) : Nat → Nat → List UInt8
  | 0, _ => []
  | k + 1, n => if n < b then [digitC n] else numR b k (n / b) ++ [digitC (n % b)]
/-- The text of the first bytes of an address of four. -/
def pre4 (a : List UInt8) : Nat → List UInt8
  | 0 => []
  | k + 1 => pre4 a k ++ (if k = 0 then [] else [46]) ++ numR 10 9 (a.getD k 0).toNat
/-- The text of the first pairs of bytes of an address of sixteen. -/
def pre16 (a : List UInt8) : Nat → List UInt8
  | 0 => []
  | k + 1 => pre16 a k ++ (if k = 0 then [] else [58]) ++ numR 16 9 (256 * (a.getD (2 * k) 0).toNat + (a.getD (2 * k + 1) 0).toNat)
def textA (a : List UInt8) : List UInt8 × Bool := if a.length = 4 then (pre4 a 4, true) else if a.length = 16 then (pre16 a 8, true) else ([], false)
def x_addr_Text : (List UInt8) × Unit → Option (((List UInt8) × Bool × Unit) × Unit)
  | (a, _) => some (((textA a).1, (textA a).2, ()), ())
end Go.VI
