import Derived.Lib.Bytealg
set_option linter.unusedVariables false
namespace Go.VI
open Go
variable {M : Type}
def splitC (c : UInt8) : List UInt8 → List (List UInt8)
  | [] => [[]]
  | x :: r => if x = c then [] :: splitC c r else match splitC c r with
    | h :: t => (x :: h) :: t
    | [] => [[x]]
def digitC (n : Nat) : UInt8 := ([48, 49, 50, 51, 52, 53, 54, 55, 56, 57, 97, 98, 99, 100, 101, 102] : List UInt8).getD n 0
def numR (b : Nat) : Nat → Nat → List UInt8
  | 0, _ => []
  | k + 1, n => if n < b then [digitC n] else numR b k (n / b) ++ [digitC (n % b)]
def dg : List UInt8 := [48, 49, 50, 51, 52, 53, 54, 55, 56, 57, 97, 98, 99, 100, 101, 102]
def ix (c : UInt8) : Nat := dg.idxOf c
def dv (b : Nat) (c : UInt8) : Option Nat := if ix c < b then some (ix c) else none
def vN (b : Nat) : List UInt8 → Nat → Option Nat
  | [], x => some x
  | c :: r, x => match dv b c with | none => none | some d => vN b r (x * b + d)
def joinC (c : UInt8) : List (List UInt8) → List UInt8
  | [] => []
  | [p] => p
  | p :: q :: r => p ++ c :: joinC c (q :: r)
def cutC (c : UInt8) : List UInt8 → List UInt8 × List UInt8 × Bool
  | [] => ([], [], false)
  | x :: r => if x = c then ([], r, true) else (x :: (cutC c r).1, (cutC c r).2)
structure TFd (M : Type) where
  w : List UInt8
  get : M → List UInt8
  put : List UInt8 → M → Option M
def lineF (m : M) : List (TFd M) → List UInt8
  | [] => []
  | f :: r => (if f.get m = [] then [] else 32 :: (f.w ++ 61 :: f.get m)) ++ lineF m r
def readF : List (TFd M) → M → List UInt8 → Bool → Option (M × List UInt8 × Bool)
  | [], m, rest, more => some (m, rest, more)
  | f :: r, m, rest, more =>
    if more = false then some (m, rest, more)
    else if (f.w ++ [61]).isPrefixOf (cutC 32 rest).1 = true then
      match f.put ((cutC 32 rest).1.drop (f.w.length + 1)) m with
      | none => none
      | some m' => readF r m' (cutC 32 rest).2.1 (cutC 32 rest).2.2
    else readF r m rest more
def hexs : List UInt8 → List UInt8
  | [] => []
  | b :: r => digitC (b.toNat / 16) :: digitC (b.toNat % 16) :: hexs r
def hexRd : List UInt8 → Option (List UInt8)
  | [] => some []
  | [_] => none
  | a :: b :: r => if ix a < 16 ∧ ix b < 16 then (hexRd r).map (UInt8.ofNat (ix a * 16 + ix b) :: ·) else none
def decT (n : Nat) : List UInt8 := numR 10 13 n
def numRd (s : List UInt8) : Option Nat := match vN 10 s 0 with
  | some v => if v ≤ 1099511627776 ∧ decT v = s then some v else none
  | none => none
def destT (x : List UInt8 × Nat) : List UInt8 := hexs x.1 ++ 58 :: decT x.2
def destRd (s : List UInt8) : Option (List UInt8 × Nat) := if (cutC 58 s).2.2 = true then (hexRd (cutC 58 s).1).bind fun a => (numRd (cutC 58 s).2.1).map fun n => (a, n) else none
def subT (x : Nat × List UInt8) : List UInt8 := decT x.1 ++ 58 :: hexs x.2
def subRd (s : List UInt8) : Option (Nat × List UInt8) := if (cutC 58 s).2.2 = true then (numRd (cutC 58 s).1).bind fun n => (hexRd (cutC 58 s).2.1).map fun a => (n, a) else none
def allRd {α : Type} (f : List UInt8 → Option α) : List (List UInt8) → Option (List α)
  | [] => some []
  | s :: r => (f s).bind fun x => (allRd f r).map (x :: ·)
def listT (l : List (List UInt8 × Nat)) : List UInt8 := joinC 44 (l.map destT)
def listRd (s : List UInt8) : Option (List (List UInt8 × Nat)) := if s = [] then none else allRd destRd (splitC 44 s)
def subsT (l : List (Nat × List UInt8)) : List UInt8 := joinC 44 (l.map subT)
def subsRd (s : List UInt8) : Option (List (Nat × List UInt8)) := if s = [] then none else allRd subRd (splitC 44 s)
end Go.VI
