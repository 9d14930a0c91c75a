import Derived.Lib.Bytealg
set_option linter.unusedVariables false
namespace Go.VI
open Go
variable {M : Type}
def ab8 (c : UInt8) : List UInt8 → List (List UInt8)
  | [] => [[]]
  | x :: r => if x = c then [] :: ab8 c r else match ab8 c r with
    | h :: t => (x :: h) :: t
    | [] => [[x]]
def aB5 (n : Nat) : UInt8 := ([48, 49, 50, 51, 52, 53, 54, 55, 56, 57, 97, 98, 99, 100, 101, 102] : List UInt8).getD n 0
def aX1 (b : Nat) : Nat → Nat → List UInt8
  | 0, _ => []
  | k + 1, n => if n < b then [aB5 n] else aX1 b k (n / b) ++ [aB5 (n % b)]
def dg : List UInt8 := [48, 49, 50, 51, 52, 53, 54, 55, 56, 57, 97, 98, 99, 100, 101, 102]
def ix (c : UInt8) : Nat := dg.idxOf c
def dv (b : Nat) (c : UInt8) : Option Nat := if ix c < b then some (ix c) else none
def vN (b : Nat) : List UInt8 → Nat → Option Nat
  | [], x => some x
  | c :: r, x => match dv b c with | none => none | some d => vN b r (x * b + d)
def ai7 (c : UInt8) : List (List UInt8) → List UInt8
  | [] => []
  | [p] => p
  | p :: q :: r => p ++ c :: ai7 c (q :: r)
def ac4 (c : UInt8) : List UInt8 → List UInt8 × List UInt8 × Bool
  | [] => ([], [], false)
  | x :: r => if x = c then ([], r, true) else (x :: (ac4 c r).1, (ac4 c r).2)
structure TFd (M : Type) where
  w : List UInt8
  get : M → List UInt8
  put : List UInt8 → M → Option M
def ad5 (m : M) : List (TFd M) → List UInt8
  | [] => []
  | f :: r => (if f.get m = [] then [] else 32 :: (f.w ++ 61 :: f.get m)) ++ ad5 m r
def al0 : List (TFd M) → M → List UInt8 → Bool → Option (M × List UInt8 × Bool)
  | [], m, rest, more => some (m, rest, more)
  | f :: r, m, rest, more =>
    if more = false then some (m, rest, more)
    else if (f.w ++ [61]).isPrefixOf (ac4 32 rest).1 = true then
      match f.put ((ac4 32 rest).1.drop (f.w.length + 1)) m with
      | none => none
      | some m' => al0 r m' (ac4 32 rest).2.1 (ac4 32 rest).2.2
    else al0 r m rest more
def ag9 : List UInt8 → List UInt8
  | [] => []
  | b :: r => aB5 (b.toNat / 16) :: aB5 (b.toNat % 16) :: ag9 r
def aj8 : List UInt8 → Option (List UInt8)
  | [] => some []
  | [_] => none
  | a :: b :: r => if ix a < 16 ∧ ix b < 16 then (aj8 r).map (UInt8.ofNat (ix a * 16 + ix b) :: ·) else none
def as2 (n : Nat) : List UInt8 := aX1 10 13 n
def al1 (s : List UInt8) : Option Nat := match vN 10 s 0 with
  | some v => if v ≤ 1099511627776 ∧ as2 v = s then some v else none
  | none => none
def an1 (x : List UInt8 × Nat) : List UInt8 := ag9 x.1 ++ 58 :: as2 x.2
def bz7 (s : List UInt8) : Option (List UInt8 × Nat) := if (ac4 58 s).2.2 = true then (aj8 (ac4 58 s).1).bind fun a => (al1 (ac4 58 s).2.1).map fun n => (a, n) else none
def au0 (x : Nat × List UInt8) : List UInt8 := as2 x.1 ++ 58 :: ag9 x.2
def bZ3 (s : List UInt8) : Option (Nat × List UInt8) := if (ac4 58 s).2.2 = true then (al1 (ac4 58 s).1).bind fun n => (aj8 (ac4 58 s).2.1).map fun a => (n, a) else none
def bi1 {α : Type} (f : List UInt8 → Option α) : List (List UInt8) → Option (List α)
  | [] => some []
  | s :: r => (f s).bind fun x => (bi1 f r).map (x :: ·)
def bi2 (l : List (List UInt8 × Nat)) : List UInt8 := ai7 44 (l.map an1)
def aR3 (s : List UInt8) : Option (List (List UInt8 × Nat)) := if s = [] then none else bi1 bz7 (ab8 44 s)
def bi3 (l : List (Nat × List UInt8)) : List UInt8 := ai7 44 (l.map au0)
def aR4 (s : List UInt8) : Option (List (Nat × List UInt8)) := if s = [] then none else bi1 bZ3 (ab8 44 s)
end Go.VI
