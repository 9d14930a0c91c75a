import Derived.Calls
import Derived.Orders
/-! A small evaluator over plain data: values without addresses, memory as boxes that a slot owns. What it computes is shown in V2.. to be what the model does. -/
set_option linter.unusedVariables false
namespace Go.VI
open Go

inductive Fl where
  | ro | tight | app

/-- One cell's value, told without addresses. -/
inductive CV (τ : Nat → Type) : Type where
  | any
  | bool (b : Bool)
  | int (k : IntKind) (n : Int)
  | str (s : List UInt8)
  | fn (f : Nat)
  | sl (e : Nat) (xs : List (τ e)) (f : Fl)
  | bs (e : Nat) (s : List UInt8) (f : Fl)
  | ref (s off : Nat)
  | sref (s : Nat)
  | eref (s : Nat) (i : Nat)

inductive AV (τ : Nat → Type) : Type where
  | undef
  | one (c : CV τ)
  | agg (cs : List (CV τ))
  | tup (vs : List (Bool × List (CV τ)))
  | box (cs : List (CV τ))
  | bblk (e : Nat) (s : List UInt8) (t : Bool)
  | im (cs : List (CV τ))

structure Univ where
  τ : Nat → Type
  enc : (e : Nat) → τ e → List (CV τ)
  dec : (e : Nat) → List (CV τ) → Option (τ e)

abbrev St (U : Univ) := List (Nat × AV U.τ)

variable {U : Univ}

def St.get : St U → Nat → AV U.τ
  | [], _ => .undef
  | (t, v) :: r, s => cond (Nat.beq t s) v (St.get r s)

def St.put : St U → Nat → AV U.τ → St U
  | [], s, v => [(s, v)]
  | (t, u) :: r, s, v => cond (Nat.beq t s) ((s, v) :: r) (cond (Nat.blt s t) ((s, v) :: (t, u) :: r) ((t, u) :: St.put r s v))

def St.puts : St U → List (Nat × AV U.τ) → St U
  | st, [] => st
  | st, (s, v) :: r => St.puts (st.put s v) r

/-- What goes into a call: a value's cells, or a pointer to a box with these cells. -/
inductive Arg (τ : Nat → Type) : Type where
  | val (agg : Bool) (cs : List (CV τ))
  | ptr (cs : List (CV τ))

structure Out (τ : Nat → Type) where
  ret : AV τ
  boxes : List (List (CV τ))

inductive Tree (U : Univ) : Type 1 where
  | fail
  | done (ws : List (Nat × AV U.τ))
  | read (s : Nat) (k : AV U.τ → Tree U)
  | split (s : Nat) (k : Bool → Tree U)
  | ite (p : Prop) (d : Decidable p) (a b : Tree U)
  | opt {α : Type} (o : Option α) (k : α → Tree U)
  | call (f : Nat) (args : List (Arg U.τ)) (k : Out U.τ → Tree U)

def Tree.guard (p : Prop) [d : Decidable p] (t : Tree U) : Tree U := .ite p d t .fail

/-- What is called, by number; 'R' is whatever the caller makes of it. -/
abbrev Tab (U : Univ) := (R : Type) → Nat → List (Arg U.τ) → (Out U.τ → Option R) → Option R

section eval
variable {R : Type} (Φ : Tab U)

def evT : Tree U → St U → List Nat → (St U → List Nat → List (Nat × AV U.τ) → Option R) → Option R
  | .fail, _, _, _ => none
  | .done ws, st, log, k => k st log ws
  | .read s f, st, log, k => evT (f (st.get s)) st (s :: log) k
  | .split s f, st, log, k =>
    match st.get s with
    | .one (.bool b) => @ite _ (b = true) (instDecidableEqBool b true) (evT (f true) (st.put s (.one (.bool true))) (s :: log) k) (evT (f false) (st.put s (.one (.bool false))) (s :: log) k)
    | _ => none
  | .ite p d a b, st, log, k => @ite _ p d (evT a st log k) (evT b st log k)
  | .opt o f, st, log, k => o.bind fun x => evT (f x) st log k
  | .call f args g, st, log, k => Φ R f args fun o => evT (g o) st log k
end eval

/-! ### operands -/
/-- The first number that is no slot: boxes that came in by pointers lie there. -/
def vbase : Nat := 1000000

def CV.plain : CV U.τ → CV U.τ
  | .sl e xs .app => .sl e xs .ro
  | .bs e s .app => .bs e s .ro
  | c => c

def constCV (P : Program) (t : TypeId) : Value → CV U.τ
  | .bool b => .bool b
  | .int k n => cond (decide (k.min ≤ n) && decide (n ≤ k.max)) (.int k n) .any
  | .string s => cond (Nat.ble s.data.toList.length 9223372036854775807) (.str s.data.toList) .any
  | .slice none 0 0 =>
    match P.underlying t with
    | some (.slice e) =>
      match P.underlying e with
      | some (.int .u8) => .bs e [] .tight
      | _ => .sl e [] .tight
    | _ => .any
  | _ => .any

def one1B : Value → Bool
  | .agg _ => false
  | .tuple _ => false
  | _ => true

/-- The types of the cells that a value of this type has. -/
def flat (P : Program) : Nat → TypeId → List TypeId
  | 0, t => [t]
  | n + 1, t =>
    match P.underlying t with
    | some (.struct fs) => fs.toList.flatMap fun f => flat P n f.type
    | some (.array m e) => (List.replicate m (flat P n e)).flatten
    | _ => [t]

def zipConst (P : Program) : List TypeId → List Value → List (CV U.τ)
  | t :: ts, v :: vs => constCV P t v :: zipConst P ts vs
  | [], v :: vs => .any :: zipConst P [] vs
  | _, [] => []

/-- The zero value's cells, and whether it is a struct or an array. -/
def zeroCV (P : Program) (t : TypeId) : Option (Bool × List (CV U.τ)) :=
  match P.info? t with
  | some i =>
    match i.zero with
    | some (.agg cs) => cond (cs.toList.all one1B) (some (true, zipConst P (flat P 6 t) cs.toList)) none
    | some v => cond (one1B v) (some (false, [constCV P t v])) none
    | none => none
  | none => none

def isAggT (P : Program) (t : TypeId) : Bool :=
  match P.underlying t with
  | some (.struct _) | some (.array ..) => true
  | _ => false

/-- A slot's value as an operand: of a box its address. -/
def asVal (t : Nat) : AV U.τ → AV U.τ
  | .box _ => .one (.ref t 0)
  | .bblk .. => .one (.sref t)
  | v => v

/-- An operand; the type is that of a constant. -/
def rdO (P : Program) (ty : TypeId) (x : Operand) (k : AV U.τ → Tree U) : Tree U :=
  match x with
  | .tmp t => cond (Nat.ble vbase t) .fail (.read t fun v => k (asVal t v))
  | .const (.agg cs) => cond (cs.toList.all one1B) (k (.agg (zipConst P (flat P 6 ty) cs.toList))) .fail
  | .const v => k (.one (constCV P ty v))
  | .global _ => .fail
  | .func f => k (.one (.fn f))

def rd1 (P : Program) (ty : TypeId) (x : Operand) (k : CV U.τ → Tree U) : Tree U :=
  rdO P ty x fun | .one c => k c | _ => .fail

def rdInt (P : Program) (ty : TypeId) (x : Operand) (k : IntKind → Int → Tree U) : Tree U :=
  rd1 P ty x fun | .int i n => k i n | _ => .fail

/-- A value's cells, as they may be laid into a box, a call, a slice: nothing that may be appended to, no address. -/
def cellsOf : AV U.τ → Option (Bool × List (CV U.τ))
  | .one .any | .one (.ref ..) | .one (.sref _) | .one (.eref ..) => none
  | .one c => some (false, [c.plain])
  | .agg cs => some (true, cs)
  | _ => none

def rdCells (P : Program) (ty : TypeId) (x : Operand) (k : Bool → List (CV U.τ) → Tree U) : Tree U :=
  rdO P ty x fun v => match cellsOf v with | some (a, cs) => k a cs | none => .fail

def AV.owner : AV U.τ → Bool
  | .box _ | .bblk .. => true
  | _ => false

/-- A result into a slot that owns nothing. -/
def wr (dst : Option Nat) (v : AV U.τ) (more : List (Nat × AV U.τ) := []) : Tree U :=
  match dst with
  | none => .done more
  | some d => .read d fun old => cond old.owner .fail (.done ((d, v) :: more))

/-! ### arithmetic -/
def ibits (op : BinOp) (k : IntKind) (x y : Int) : Int :=
  match op with
  | .and => k.wrap ((BitVec.ofInt k.bits x &&& BitVec.ofInt k.bits y).toNat : Nat)
  | .or => k.wrap ((BitVec.ofInt k.bits x ||| BitVec.ofInt k.bits y).toNat : Nat)
  | .xor => k.wrap ((BitVec.ofInt k.bits x ^^^ BitVec.ofInt k.bits y).toNat : Nat)
  | _ => k.wrap ((BitVec.ofInt k.bits x &&& ~~~ BitVec.ofInt k.bits y).toNat : Nat)

def ishl (k : IntKind) (x y : Int) : Int := k.wrap (x * 2 ^ (min y.toNat k.bits))
def ishr (k : IntKind) (x y : Int) : Int := x.fdiv (2 ^ (min y.toNat k.bits))

def maxLenI : Int := 9223372036854775807

/-- The same bounds, as words that are cheap where a length is known in part. -/
def maxB (n : Nat) : Bool := Nat.ble n 9223372036854775807
def roomB (n : Nat) : Bool := Nat.ble n 35184372088832

/-! ### slices -/
def rdBytes (x : AV U.τ) (k : List UInt8 → Tree U) : Tree U :=
  match x with
  | .one (.str s) => k s
  | .one (.bs _ s _) => k s
  | .one (.sref r) => .read r fun | .bblk _ s _ => k s | _ => .fail
  | _ => .fail

def lenT (P : Program) (t : TypeId) (x : AV U.τ) (k : CV U.τ → Tree U) : Tree U :=
  match P.underlying t, x with
  | some .string, .one (.str s) => k (.int .i64 s.length)
  | some (.slice _), .one (.sl _ xs _) => k (.int .i64 xs.length)
  | some (.slice _), .one (.bs _ s _) => k (.int .i64 s.length)
  | some (.slice _), .one (.sref r) => .read r fun | .bblk _ s _ => k (.int .i64 s.length) | _ => .fail
  | _, _ => .fail

/-- The bounds of a slice expression over a row of n. -/
def boundsT (P : Program) (n : Nat) (lo hi : Option Operand) (k : Option Nat → Option Nat → Tree U) : Tree U :=
  match lo, hi with
  | none, none => k none none
  | some a, none => rdInt P 0 a fun _ l => .guard (0 ≤ l ∧ l ≤ n) (k (some l.toNat) none)
  | none, some b => rdInt P 0 b fun _ h => .guard (0 ≤ h ∧ h ≤ n) (k none (some h.toNat))
  | some a, some b => rdInt P 0 a fun _ l => rdInt P 0 b fun _ h => .guard (0 ≤ l ∧ l ≤ h ∧ h ≤ n) (k (some l.toNat) (some h.toNat))

def cut {α : Type} (s : List α) : Option Nat → Option Nat → List α
  | none, none => s
  | some l, none => s.drop l
  | none, some h => s.take h
  | some l, some h => (s.take h).drop l

/-- One of the places 0 .. n-1, told apart by an index that the evaluator need not know. -/
def pickIx (i : Int) : Nat → (Nat → Tree U) → Nat → Tree U
  | 0, _, _ => .fail
  | n + 1, k, j => .ite (i = (j : Int)) inferInstance (k j) (pickIx i n k (j + 1))

def takeCells (cs : List (CV U.τ)) (off n : Nat) : Option (List (CV U.τ)) := cond (Nat.ble (off + n) cs.length) (some ((cs.drop off).take n)) none

/-- What is loaded: cells of a box as a value of the type. -/
def partOf (P : Program) (t : TypeId) (cs : List (CV U.τ)) (off : Nat) : Option (AV U.τ) :=
  match P.underlying t with
  | some (.struct _) | some (.array ..) => (takeCells cs off (P.cellsOf t)).map fun l => .agg (l.map CV.plain)
  | some _ => match cs[off]? with | some c => some (.one c) | none => none
  | none => none

/-- The type is a slice of e, whose values take cells. -/
def sliceOf (P : Program) (t : TypeId) (e : Nat) (k : Tree U) : Tree U :=
  match P.underlying t with
  | some (.slice e') => cond (Nat.beq e' e && Nat.ble 1 (P.cellsOf e)) k .fail
  | _ => .fail

def oneCellT (P : Program) (t : TypeId) : Bool :=
  match P.underlying t with
  | some (.struct _) => false
  | some (.array ..) => false
  | some _ => true
  | none => false

def isStr (P : Program) (t : TypeId) : Bool :=
  match P.underlying t with | some .string => true | _ => false

def setCells (cs : List (CV U.τ)) (off : Nat) : List (CV U.τ) → List (CV U.τ)
  | [] => cs
  | c :: r => setCells (cs.set off c) (off + 1) r

def u8of (n : Int) : UInt8 := n.toNat.toUInt8

def memNat (t : Nat) : List Nat → Bool
  | [] => false
  | s :: r => cond (Nat.beq t s) true (memNat t r)

structure Adv where
  n : Nat
  keep : List (List Nat)
  steal : List Nat
  mutb : List Nat

/-- 'move', 'load': whether what may be appended to goes along, is in the advice. -/
def given (a : Adv) (dst : Option Nat) (v : AV U.τ) : Bool :=
  match dst, v with
  | some d, .one (.sl _ _ .app) | some d, .one (.bs _ _ .app) => memNat d a.steal
  | _, _ => false

def AV.plain : AV U.τ → AV U.τ
  | .one c => .one c.plain
  | v => v

def decs (U : Univ) (e : Nat) : List (List (CV U.τ)) → Option (List (U.τ e))
  | [] => some []
  | c :: r => match U.dec e c, decs U e r with | some x, some xs => some (x :: xs) | _, _ => none

def bytesOfCells : List (List (CV U.τ)) → Option (List UInt8)
  | [] => some []
  | [.int .u8 n] :: r => match bytesOfCells r with | some s => some (u8of n :: s) | none => none
  | _ => none

/-- The parts of a literal, place by place, from i on. -/
def partsT (P : Program) (e : TypeId) : List (Nat × Operand) → Nat → (List (List (CV U.τ)) → Tree U) → Tree U
  | [], _, k => k []
  | (j, x) :: r, i, k => cond (Nat.beq j i) (rdCells P e x fun _ cs => partsT P e r (i + 1) fun rest => k (cs :: rest)) .fail

def fieldsT (P : Program) (fs : Array Field) : List (Nat × Operand) → List (CV U.τ) → (List (CV U.τ) → Tree U) → Tree U
  | [], cs, k => k cs
  | (j, x) :: r, cs, k =>
    match fs[j]? with
    | some f => rdCells P f.type x fun _ ds => cond (Nat.beq ds.length (P.cellsOf f.type) && Nat.ble (f.offset + ds.length) cs.length) (fieldsT P fs r (setCells cs f.offset ds) k) .fail
    | none => .fail

def elemsT (P : Program) (e : TypeId) : List (Nat × Operand) → List (CV U.τ) → (List (CV U.τ) → Tree U) → Tree U
  | [], cs, k => k cs
  | (j, x) :: r, cs, k => rdCells P e x fun _ ds => cond (Nat.beq ds.length (P.cellsOf e) && Nat.ble (j * P.cellsOf e + ds.length) cs.length) (elemsT P e r (setCells cs (j * P.cellsOf e) ds) k) .fail

def isU8 (P : Program) (e : TypeId) : Bool :=
  match P.info? e with
  | some i => match i.zero with
    | some (.int .u8 0) => Nat.beq i.size 1 && Nat.beq i.bytes 1 && (match P.underlying e with | some (.int .u8) => true | _ => false)
    | _ => false
  | none => false

/-- Two structs' fields, a cell each, held against each other. -/
def fieldEq (P : Program) (f : Field) (i : Nat) (c d : CV U.τ) : Option Bool :=
  cond ((f.name != "_") && Nat.beq f.offset i)
    (match P.underlying f.type, c, d with
    | some .bool, .bool a, .bool b => some (a == b)
    | some (.int _), .int k a, .int j b => cond (decide (k = j)) (some (a == b)) none
    | some .string, .str a, .str b => some (a == b)
    | _, _, _ => none) none

def structEq (P : Program) : List Field → Nat → List (CV U.τ) → List (CV U.τ) → Option Bool
  | [f], i, [a], [b] => fieldEq P f i a b
  | f :: fs, i, a :: as, b :: bs => match fieldEq P f i a b, structEq P fs (i + 1) as bs with | some x, some y => some (x && y) | _, _ => none
  | _, _, _, _ => none

def aggEq (P : Program) (t : TypeId) (as bs : List (CV U.τ)) : Option Bool :=
  match P.underlying t with
  | some (.struct fs) => cond (P.eqGuardType P.depth t || P.stoodInHeld t) none (structEq P fs.toList 0 as bs)
  | _ => none

def binT (P : Program) (t : TypeId) (op : BinOp) (x y : AV U.τ) (k : CV U.τ → Tree U) : Tree U :=
  match x, y with
  | .one (.int i a), .one (.int j b) =>
    match op with
    | .shl => .guard (0 ≤ b) (k (.int i (ishl i a b)))
    | .shr => .guard (0 ≤ b) (k (.int i (ishr i a b)))
    | _ =>
      cond (decide (i = j))
        (match op with
        | .add => k (.int i (i.wrap (a + b)))
        | .sub => k (.int i (i.wrap (a - b)))
        | .mul => k (.int i (i.wrap (a * b)))
        | .quo => .guard (b ≠ 0) (k (.int i (i.wrap (a.tdiv b))))
        | .rem => .guard (b ≠ 0) (k (.int i (a.tmod b)))
        | .and => k (.int i (ibits .and i a b))
        | .or => k (.int i (ibits .or i a b))
        | .xor => k (.int i (ibits .xor i a b))
        | .andNot => k (.int i (ibits .andNot i a b))
        | .eql => k (.bool (a == b))
        | .neq => k (.bool (a != b))
        | .lss => k (.bool (decide (a < b)))
        | .leq => k (.bool (decide (a ≤ b)))
        | .gtr => k (.bool (decide (b < a)))
        | .geq => k (.bool (decide (b ≤ a)))
        | _ => .fail)
        .fail
  | .one (.str a), .one (.str b) =>
    match op with
    | .add => .guard (maxB (a.length + b.length) = true) (k (.str (a ++ b)))
    | .eql => k (.bool (a == b))
    | .neq => k (.bool (!(a == b)))
    | _ => .fail
  | .one (.bool a), .one (.bool b) =>
    cond (match P.underlying t with | some .bool => true | _ => false)
      (match op with
      | .eql => k (.bool (a == b))
      | .neq => k (.bool (!(a == b)))
      | _ => .fail) .fail
  | .agg as, .agg bs =>
    match op, aggEq P t as bs with
    | .eql, some r => k (.bool r)
    | .neq, some r => k (.bool (!r))
    | _, _ => .fail
  | _, _ => .fail

/-- The zero value has as many cells as the type. -/
def zeroOk (U : Univ) (P : Program) (e : TypeId) : Bool :=
  match zeroCV (U := U) P e with
  | some (_, cs) => Nat.beq cs.length (P.cellsOf e)
  | none => false

def srcOk (P : Program) (u : TypeId) : Bool :=
  match P.underlying u with
  | some (.slice _) => true
  | some .string => true
  | _ => false

/-- The room that an append may ask for. -/
def roomI : Int := 35184372088832

theorem maxB_ok {n : Nat} (h : maxB n = true) : (n : Int) ≤ maxLenI := by
  have := Nat.le_of_ble_eq_true h
  unfold maxLenI; omega

theorem roomB_ok {n : Nat} (h : roomB n = true) : (n : Int) ≤ roomI := by
  have := Nat.le_of_ble_eq_true h
  unfold roomI; omega

/-- Behind an append: what could be appended to, where it lay, can no more. -/
def appWr (d : Nat) (from_ : Option Nat) (f : Fl) (new old : AV U.τ) : Tree U :=
  match f, from_ with
  | .app, some t => cond (Nat.beq t d) .fail (wr (some d) new [(t, old)])
  | .app, none => .fail
  | .ro, _ => .fail
  | .tight, _ => wr (some d) new

def appendT (P : Program) (d : Nat) (e : TypeId) (from_ : Option Nat) (s x : AV U.τ) : Tree U :=
  match s, x with
  | .one (.sl e1 xs f), .one (.sl e2 ys _) =>
    match Nat.decEq e2 e1 with
    | .isTrue h =>
      cond (Nat.beq e1 e) (.guard (roomB ((xs.length + ys.length) * P.bytesOf e) = true) (appWr d from_ f (.one (.sl e1 (xs ++ h ▸ ys) .app)) (.one (.sl e1 xs .ro)))) .fail
    | .isFalse _ => .fail
  | .one (.bs e1 s f), x =>
    cond (Nat.beq e1 e && isU8 P e) (rdBytes x fun y => .guard (roomB (s.length + y.length) = true) (appWr d from_ f (.one (.bs e1 (s ++ y) .app)) (.one (.bs e1 s .ro)))) .fail
  | .one (.sref r), x => .read r fun
    | .bblk e1 s true => cond (Nat.beq e1 e && isU8 P e) (rdBytes x fun y => match y with
      | [] => .fail
      | b :: y => .guard (roomB (s.length + (b :: y).length) = true) (wr (some d) (.one (.bs e1 (s ++ b :: y) .app)))) .fail
    | _ => .fail
  | _, _ => .fail

def opTmp : Operand → Option Nat
  | .tmp t => some t
  | _ => none

/-- One cell of a box is written; what may be appended to goes along. -/
def storeT (s off : Nat) (cs : List (CV U.τ)) (c : CV U.τ) (y : Option Nat) : Tree U :=
  match c, y with
  | .sl _ _ .app, some y => .done [(s, .box (cs.set off c)), (y, .one c.plain)]
  | .bs _ _ .app, some y => .done [(s, .box (cs.set off c)), (y, .one c.plain)]
  | .sl _ _ .app, none => .fail
  | .bs _ _ .app, none => .fail
  | _, _ => .done [(s, .box (cs.set off c))]

/-- The arguments of a call, by the types of the callee's parameters. -/
def argsT (P : Program) : List (TypeId × Operand) → (List (Arg U.τ) → List (Nat × Nat × List (CV U.τ)) → Tree U) → Tree U
  | [], k => k [] []
  | (t, x) :: r, k => rdO P t x fun
    | .one (.ref s off) => .read s fun
      | .box cs =>
        match P.underlying t with
        | some (.pointer e) =>
          match takeCells cs off (P.cellsOf e) with
          | some l => argsT P r fun as bs => cond (memNat s (bs.map (·.1))) .fail (k (.ptr l :: as) ((s, off, cs) :: bs))
          | none => .fail
        | _ => .fail
      | _ => .fail
    | v => match cellsOf v with
      | some (a, cs) => argsT P r fun as bs => k (.val a cs :: as) bs
      | none => .fail

/-- The boxes that went along, with what came back. -/
def backs : List (Nat × Nat × List (CV U.τ)) → List (List (CV U.τ)) → List (Nat × AV U.τ)
  | (s, off, cs) :: bs, l :: ls => (s, .box (setCells cs off l)) :: backs bs ls
  | _, _ => []

/-- What an operation does: which slots it reads, and what it writes. -/
def opTree (P : Program) (adv : Adv) (o : Oper) : Tree U :=
  match o.op with
  | .move x =>
    rdO P o.type x fun v => cond (given adv o.dst v) (match opTmp x with | some s => wr o.dst v [(s, v.plain)] | none => .fail) (wr o.dst v.plain)
  | .assign x =>
    rdO P o.type x fun v => match v with
      | .one (.sl _ _ .app) | .one (.bs _ _ .app) => (match opTmp x with | some s => wr o.dst v [(s, v.plain)] | none => .fail)
      | _ => wr o.dst v
  | .pick c a b =>
    match c with
    | .tmp t => .split t fun c => rdO P o.type (cond c a b) fun v => wr o.dst v.plain
    | _ => .fail
  | .alloc t => match o.dst with
    | some d => .read d fun | .undef => (match zeroCV P t with | some (_, cs) => .done [(d, .box cs)] | none => .fail) | _ => .fail
    | none => .fail
  | .box t x => match o.dst with
    | some d => .read d fun | .undef => rdCells P t x fun _ cs => .done [(d, .box cs)] | _ => .fail
    | none => .fail
  | .build t parts =>
    match P.underlying t, zeroCV P t with
    | some (.struct fs), some (true, z) => cond (fs.toList.all fun f => Nat.ble 1 (P.cellsOf f.type)) (fieldsT P fs parts.toList z fun cs => wr o.dst (.agg cs)) .fail
    | some (.array _ e), some (true, z) => cond (Nat.ble 1 (P.cellsOf e)) (elemsT P e parts.toList z fun cs => wr o.dst (.agg cs)) .fail
    | _, _ => .fail
  | .buildSlice t n parts =>
    match P.underlying t with
    | some (.slice e) =>
      cond (Nat.ble 1 (P.cellsOf e) && Nat.ble (n * P.cellsOf e) 16777216 && (zeroCV (U := U) P e).isSome) (partsT P e parts.toList 0 fun css => cond (Nat.beq css.length n && css.all fun cs => Nat.beq cs.length (P.cellsOf e))
        (cond (isU8 P e)
          (match bytesOfCells css with
          | some s => match o.dst with
            | some d => cond (memNat d adv.mutb) (.read d fun | .undef => .done [(d, .bblk e s true)] | _ => .fail) (wr (some d) (.one (.bs e s .tight)))
            | none => .fail
          | none => .fail)
          (match decs U e css, o.dst with | some xs, some d => wr (some d) (.one (.sl e xs .tight)) | _, _ => .fail))
        .fail) .fail
    | _ => .fail
  | .makeSlice t l c =>
    match P.underlying t, o.dst, l, c with
    | some (.slice e), some d, .tmp a, .tmp b => cond (isU8 P e && Nat.beq a b)
        (rdInt P 0 l fun _ n => .read d fun | .undef => .guard (0 ≤ n ∧ n ≤ roomI) (.done [(d, .bblk e (List.replicate n.toNat 0) true)]) | _ => .fail) .fail
    | some (.slice e), some d, .const (.int _ n), .const (.int _ m) => cond (isU8 P e && (n == m))
        (.read d fun | .undef => .guard (0 ≤ n ∧ n ≤ roomI) (.done [(d, .bblk e (List.replicate n.toNat 0) true)]) | _ => .fail) .fail
    | _, _, _, _ => .fail
  | .load t x => cond (Nat.ble 1 (P.cellsOf t)) (rdO P 0 x fun
    | .one (.ref s off) => .read s fun
      | .box cs => match partOf P t cs off with
        | some v => cond (given adv o.dst v) (wr o.dst v [(s, .box (setCells cs off (match v.plain with | .one c => [c] | _ => [])))]) (wr o.dst v.plain)
        | none => .fail
      | _ => .fail
    | .im cs => match partOf P t cs 0 with
      | some v => wr o.dst v.plain
      | none => .fail
    | .one (.eref s i) => .read s fun
      | .bblk _ b _ => .opt b[i]? fun (u : UInt8) => cond (oneCellT P t) (wr o.dst (.one (.int .u8 u.toNat))) .fail
      | _ => .fail
    | _ => .fail) .fail
  | .store t a x => cond o.dst.isSome .fail (rdO P 0 a fun
    | .one (.ref s off) => .read s fun
      | .box cs => rdO P t x fun v => match v with
        | .one .any | .one (.ref ..) | .one (.sref _) | .one (.eref ..) => .fail
        | .one c => cond (!(Nat.beq (P.cellsOf t) 1) || Nat.ble cs.length off) .fail
            (storeT s off cs c (opTmp x))
        | .agg ds => cond (Nat.beq ds.length (P.cellsOf t) && Nat.ble 1 ds.length && Nat.ble (off + ds.length) cs.length) (.done [(s, .box (setCells cs off ds))]) .fail
        | _ => .fail
      | _ => .fail
    | .one (.eref s i) => .read s fun
      | .bblk e b q => rdInt P 0 x fun k n => cond (decide (k = .u8) && Nat.beq (P.cellsOf t) 1) (.guard (i < b.length) (.done [(s, .bblk e (b.set i (u8of n)) q)])) .fail
      | _ => .fail
    | _ => .fail)
  | .nilCheck x => rdO P 0 x fun v => match v with
    | .one (.ref ..) | .one (.eref ..) | .im _ => wr o.dst v
    | _ => .fail
  | .binOp op t x y _ => rdO P t x fun a => rdO P t y fun b => binT P t op a b fun c => wr o.dst (.one c)
  | .unOp op _ x => rd1 P 0 x fun
    | .bool b => (match op with | .not => wr o.dst (.one (.bool (!b))) | _ => .fail)
    | .int k n => (match op with
      | .neg => wr o.dst (.one (.int k (k.wrap (0 - n))))
      | .xor => wr o.dst (.one (.int k (ibits .xor k (cond k.signed (-1) k.max) n)))
      | _ => .fail)
    | _ => .fail
  | .convert s d x => rdO P s x fun v =>
    match P.underlying s, P.underlying d, v with
    | some _, some (.int k), .one (.int _ n) => wr o.dst (.one (.int k (k.wrap n)))
    | some .string, some .string, .one (.str s) => wr o.dst (.one (.str s))
    | some .string, some (.slice e), .one (.str s) => cond (isU8 P e)
        (match o.dst with
        | some d => cond (memNat d adv.mutb) (.read d fun | .undef => .done [(d, .bblk e s false)] | _ => .fail) (wr (some d) (.one (.bs e s .app)))
        | none => .fail) .fail
    | some (.slice e), some .string, v => cond (isU8 P e) (match v with | .one (.str _) => .fail | _ => rdBytes v fun s => wr o.dst (.one (.str s))) .fail
    | _, _, _ => .fail
  | .slice t x lo hi mx => match mx with
    | some _ => .fail
    | none => rdO P t x fun v => match v with
      | .one (.str s) => cond (isStr P t) (boundsT P s.length lo hi fun l h => wr o.dst (.one (.str (cut s l h)))) .fail
      | .one (.sl e xs _) => sliceOf P t e (boundsT P xs.length lo hi fun l h => wr o.dst (.one (.sl e (cut xs l h) .ro)))
      | .one (.bs e s _) => sliceOf P t e (boundsT P s.length lo hi fun l h => wr o.dst (.one (.bs e (cut s l h) .ro)))
      | _ => .fail
  | .fieldAddr t x j =>
    match P.underlying t with
    | some (.struct fs) => match fs[j]? with
      | some f => cond (Nat.beq (P.cellsOf f.type) 0) .fail (rdO P 0 x fun
        | .one (.ref s off) => wr o.dst (.one (.ref s (off + f.offset)))
        | .im cs => wr o.dst (.im (cs.drop f.offset))
        | _ => .fail)
      | none => .fail
    | _ => .fail
  | .field t x j =>
    match P.underlying t with
    | some (.struct fs) => match fs[j]? with
      | some f => cond (Nat.ble 1 (P.cellsOf f.type)) (rdO P 0 x fun
        | .agg cs => match partOf P f.type cs f.offset with | some v => wr o.dst v | none => .fail
        | _ => .fail) .fail
      | none => .fail
    | _ => .fail
  | .indexAddr t x i => rdO P 0 x fun v => rdInt P 0 i fun _ n =>
    match v with
    | .one (.sl e xs _) => sliceOf P t e (.guard (0 ≤ n) (.opt xs[n.toNat]? fun (y : U.τ e) => wr o.dst (.im (U.enc e y))))
    | .one (.bs e s _) => sliceOf P t e (.guard (0 ≤ n) (.opt s[n.toNat]? fun (y : UInt8) => wr o.dst (.im [.int .u8 y.toNat])))
    | .one (.sref s) => .read s fun
      | .bblk e b _ => sliceOf P t e (.guard (0 ≤ n ∧ n < b.length) (wr o.dst (.one (.eref s n.toNat))))
      | _ => .fail
    | .one (.ref s off) => match P.underlying t with
      | some (.array m e) => cond (Nat.ble 1 (P.cellsOf e)) (pickIx n m (fun j => wr o.dst (.one (.ref s (off + j * P.cellsOf e)))) 0) .fail
      | _ => .fail
    | .im cs => match P.underlying t with
      | some (.array m e) => cond (Nat.ble 1 (P.cellsOf e)) (pickIx n m (fun j => wr o.dst (.im (cs.drop (j * P.cellsOf e)))) 0) .fail
      | _ => .fail
    | _ => .fail
  | .index t x i => rdO P t x fun v => rdInt P 0 i fun _ n =>
    match v with
    | .one (.str s) => cond (isStr P t) (.guard (0 ≤ n) (.opt s[n.toNat]? fun (y : UInt8) => wr o.dst (.one (.int .u8 y.toNat)))) .fail
    | .agg cs => match P.underlying t with
      | some (.array m e) => cond (Nat.ble 1 (P.cellsOf e)) (pickIx n m (fun j => match partOf P e cs (j * P.cellsOf e) with | some v => wr o.dst v | none => .fail) 0) .fail
      | _ => .fail
    | _ => .fail
  | .extract x i => rdO P 0 x fun
    | .tup vs => match vs[i]? with
      | some (true, cs) => wr o.dst (.agg cs)
      | some (false, [c]) => wr o.dst (.one c)
      | _ => .fail
    | _ => .fail
  | .call c =>
    match c.callee with
    | .value f => rd1 P 0 f fun
      | .fn f => match P.funcs[f]? with
        | some fn => cond (Nat.beq fn.params.size c.args.size)
            (argsT P (fn.params.toList.zip c.args.toList) fun as bs => .call f as fun out => cond (Nat.beq out.boxes.length bs.length) (wr o.dst out.ret (backs bs out.boxes)) .fail) .fail
        | none => .fail
      | _ => .fail
    | .builtin .len => match c.args.toList, c.argTypes.toList with
      | [x], [t] => rdO P t x fun v => lenT P t v fun r => wr o.dst (.one r)
      | _, _ => .fail
    | .builtin .append => match c.args.toList, c.argTypes.toList with
      | [s, x], [t, u] => match P.underlying t with
        | some (.slice e) => cond (Nat.ble 1 (P.cellsOf e) && Nat.ble 1 (P.bytesOf e) && Nat.ble (P.bytesOf e) 1000000 && zeroOk U P e && srcOk P u)
            (match o.dst with | some d => rdO P t s fun v => rdO P u x fun y => appendT P d e (opTmp s) v y | none => .fail) .fail
        | _ => .fail
      | _, _ => .fail
    | .builtin .copy => match c.args.toList, c.argTypes.toList with
      | [s, x], [t, u] => rdO P t s fun
        | .one (.sref r) => .read r fun
          | .bblk e b q => sliceOf P t e <| rdO P u x fun
            | .one (.str y) => wr o.dst (.one (.int .i64 (min y.length b.length : Nat))) [(r, .bblk e (y.take b.length ++ b.drop y.length) q)]
            | _ => .fail
          | _ => .fail
        | _ => .fail
      | _, _ => .fail
    | .builtin .min => match c.args.toList with
      | [x, y] => rdInt P 0 x fun k a => rdInt P 0 y fun j b => cond (decide (k = j)) (wr o.dst (.one (.int k (if b < a then b else a)))) .fail
      | _ => .fail
    | .builtin .max => match c.args.toList with
      | [x, y] => rdInt P 0 x fun k a => rdInt P 0 y fun j b => cond (decide (k = j)) (wr o.dst (.one (.int k (if b > a then b else a)))) .fail
      | _ => .fail
    | _ => .fail
  | _ => .fail

/-! ### the code -/
/-- A guarded operation: what its guard says is asked first. -/
def operTree (P : Program) (adv : Adv) (ops : List Oper) (o : Oper) : Tree U :=
  cond (match o.dst with | some d => Nat.ble adv.n d | none => false) .fail <|
  match o.guard with
  | none => opTree P adv o
  | some (j, want) =>
    match ops[j]? with
    | some g => match g.dst with
      | some t => .read t fun
        | .tup [] => wr o.dst (.tup [])
        | _ => .split t fun b => cond (b == want) (opTree P adv o) (wr o.dst (.tup []))
      | none => .fail
    | none => .fail

def disjoint (xs ys : List Nat) : Bool :=
  match xs with
  | [] => true
  | x :: r => cond (memNat x ys) false (disjoint r ys)

abbrev Log := List (Nat × List Nat × List Nat)

/-- Operation i, with what it reads and writes, and those ahead of it that it needn't come behind. -/
def apartOk (bits : Nat) (rd wr : List Nat) : Log → Bool
  | [] => true
  | (j, rd', wr') :: r => cond (Nat.testBit bits j || (disjoint wr wr' && disjoint wr rd' && disjoint rd wr')) (apartOk bits rd wr r) false

section code
variable {R : Type} (P : Program) (Φ : Tab U) (adv : Adv)

def evOps (all : List Oper) (draw : Bool) (before : List Nat) : List Oper → Nat → Log → St U → (St U → Option R) → Option R
  | [], _, _, st, k => k st
  | o :: rest, i, logs, st, k =>
    evT Φ (operTree P adv all o) st [] fun st rd ws =>
      cond (cond draw (apartOk (before.getD i 0) rd (ws.map (·.1)) logs) true)
        (evOps all draw before rest (i + 1) (cond draw ((i, rd, ws.map (·.1)) :: logs) []) (st.puts ws) k) none

def refOf : AV U.τ → Option Nat
  | .one (.ref s _) | .one (.sref s) | .one (.eref s _) => some s
  | _ => none

/-- Slots that own something and are made anew in this region are let go first, with what points at them. -/
def forget (t : Nat) : St U → St U
  | [] => []
  | (s, v) :: r => cond (Nat.beq s t) (forget t r) (cond (match refOf v with | some u => Nat.beq u t | none => false) ((s, .one .any) :: forget t r) ((s, v) :: forget t r))

def freshen : List Oper → St U → St U
  | [], st => st
  | o :: r, st => freshen r (match o.dst with | some d => cond (st.get d).owner (forget d st) st | none => st)

def refsOf (keep : List Nat) : St U → List Nat
  | [] => []
  | (s, v) :: r => cond (memNat s keep || Nat.ble vbase s) (match refOf v with | some u => u :: refsOf keep r | none => refsOf keep r) (refsOf keep r)

def mend (keep : List Nat) (v : AV U.τ) : AV U.τ :=
  match refOf v with
  | some u => cond (memNat u keep || Nat.ble vbase u) v (.one .any)
  | none => v

def dropBut (keep : List Nat) : St U → St U
  | [] => []
  | (s, v) :: r => cond (memNat s keep || Nat.ble vbase s) ((s, mend keep v) :: dropBut keep r) (dropBut keep r)

def settle (keep : List Nat) (st : St U) : St U := dropBut (keep ++ refsOf keep st) st

/-! forcing: the state is laid out before what follows looks at it -/
def forceC (c : CV U.τ) (k : CV U.τ → Option R) : Option R :=
  match c with
  | .any => k .any
  | .bool b => k (.bool b)
  | .int i n => k (.int i n)
  | .str s => k (.str s)
  | .fn f => k (.fn f)
  | .sl e xs .ro => k (.sl e xs .ro)
  | .sl e xs .tight => k (.sl e xs .tight)
  | .sl e xs .app => k (.sl e xs .app)
  | .bs e s .ro => k (.bs e s .ro)
  | .bs e s .tight => k (.bs e s .tight)
  | .bs e s .app => k (.bs e s .app)
  | .ref s o => k (.ref s o)
  | .sref s => k (.sref s)
  | .eref s i => k (.eref s i)

def forceCs : List (CV U.τ) → (List (CV U.τ) → Option R) → Option R
  | [], k => k []
  | c :: r, k => forceC c fun c => forceCs r fun r => k (c :: r)

def forceTs : List (Bool × List (CV U.τ)) → (List (Bool × List (CV U.τ)) → Option R) → Option R
  | [], k => k []
  | (true, cs) :: r, k => forceCs cs fun cs => forceTs r fun r => k ((true, cs) :: r)
  | (false, cs) :: r, k => forceCs cs fun cs => forceTs r fun r => k ((false, cs) :: r)

def forceV (v : AV U.τ) (k : AV U.τ → Option R) : Option R :=
  match v with
  | .undef => k .undef
  | .one c => forceC c fun c => k (.one c)
  | .agg cs => forceCs cs fun cs => k (.agg cs)
  | .tup vs => forceTs vs fun vs => k (.tup vs)
  | .box cs => forceCs cs fun cs => k (.box cs)
  | .bblk e s true => k (.bblk e s true)
  | .bblk e s false => k (.bblk e s false)
  | .im cs => forceCs cs fun cs => k (.im cs)

def forceSt : St U → (St U → Option R) → Option R
  | [], k => k []
  | (s, v) :: r, k => forceV v fun v => forceSt r fun r => k ((s, v) :: r)

def edgesOk : List Oper → Nat → Bool
  | [], _ => true
  | o :: r, i => cond (o.after.toList.all fun e => !(Region.binds .any e) || Nat.blt e.on i) (edgesOk r (i + 1)) false

def evRegion (id : Nat) (ops : List Oper) (draw : Bool) (st : St U) (k : St U → Option R) : Option R :=
  cond (draw && !(edgesOk ops 0)) none <| evOps P Φ adv ops draw (cond draw (Region.before ops.toArray).toList []) ops 0 [] (freshen ops st) fun st => forceSt (settle (adv.keep.getD id []) st) k

/-- At a loop's head: what may be appended to wherever it lies may be appended to here. -/
def CV.loosen : CV U.τ → CV U.τ
  | .sl e xs .tight => .sl e xs .app
  | .bs e s .tight => .bs e s .app
  | c => c

def loosen : St U → St U
  | [] => []
  | (s, .one c) :: r => (s, .one c.loosen) :: loosen r
  | (s, .box cs) :: r => (s, .box (cs.map CV.loosen)) :: loosen r
  | (s, v) :: r => (s, v) :: loosen r

def loopN : Nat → ((St U → Option R) → St U → Option R) → St U → Option R
  | 0, _, _ => none
  | m + 1, F, st => F (fun st' => forceSt (loosen st') (loopN m F)) st

def ev (n : Nat) : Code → (St U → Option R) → (Nat → St U → Option R) → (St U → Option R) → St U → Option R
  | .skip, kn, _, _, st => kn st
  | .region id ops draw, kn, _, _, st => evRegion P Φ adv id ops.toList draw st kn
  | .seq a b, kn, ke, kr, st => ev n a (ev n b kn ke kr) ke kr st
  | .cond c a b, kn, ke, kr, st =>
    match c with
    | .tmp t =>
      match st.get t with
      | .one (.bool x) => @ite _ (x = true) (instDecidableEqBool x true) (ev n a kn ke kr st) (ev n b kn ke kr st)
      | _ => none
    | .const (.bool x) => cond x (ev n a kn ke kr st) (ev n b kn ke kr st)
    | _ => none
  | .block id c, kn, ke, kr, st => ev n c kn (fun id' st => cond (Nat.beq id' id) (kn st) (ke id' st)) kr st
  | .loop c, _, ke, kr, st => forceSt (loosen st) (loopN n fun k => ev n c k ke kr)
  | .exit id, _, ke, _, st => ke id st
  | .ret, _, _, kr, st => kr st
  | .label _, kn, _, _, st => kn st
  | _, _, _, _, _ => none

inductive Dir where
  | l | r | at (m : Nat) | inn (m : Nat)

/-- From the place in the code that the path leads to. -/
def evAt (n : Nat) : Code → List Dir → (St U → Option R) → (Nat → St U → Option R) → (St U → Option R) → St U → Option R
  | c, [], kn, ke, kr, st => ev P Φ adv n c kn ke kr st
  | .seq a b, .l :: p, kn, ke, kr, st => evAt n a p (ev P Φ adv n b kn ke kr) ke kr st
  | .seq _ b, .r :: p, kn, ke, kr, st => evAt n b p kn ke kr st
  | .cond _ a _, .l :: p, kn, ke, kr, st => evAt n a p kn ke kr st
  | .cond _ _ b, .r :: p, kn, ke, kr, st => evAt n b p kn ke kr st
  | .block id c, .l :: p, kn, ke, kr, st => evAt n c p kn (fun id' st => cond (Nat.beq id' id) (kn st) (ke id' st)) kr st
  | .loop c, .at m :: _, _, ke, kr, st => loopN m (fun k => ev P Φ adv n c k ke kr) st
  | .loop c, .inn m :: p, _, ke, kr, st => evAt n c p (fun st' => forceSt (loosen st') (loopN m fun k => ev P Φ adv n c k ke kr)) ke kr st
  | _, _, _, _, _, _ => none

/-- What a function hands back, in the state at its end. -/
def resVal (P : Program) : ResultVar → St U → Option (Bool × List (CV U.τ))
  | .tmp t, st => cellsOf (asVal t (st.get t))
  | .cell a t, st => cond (Nat.ble vbase a) none <|
    match asVal a (st.get a) with
    | .one (.ref s off) =>
      match st.get s with
      | .box cs => cond (Nat.ble 1 (P.cellsOf t)) ((partOf P t cs off).bind fun v => cellsOf v) none
      | _ => none
    | _ => none

def resVals (P : Program) : List ResultVar → St U → Option (List (Bool × List (CV U.τ)))
  | [], _ => some []
  | r :: rs, st => match resVal P r st, resVals P rs st with | some x, some xs => some (x :: xs) | _, _ => none

def boxesAt (st : St U) : Nat → Nat → Option (List (List (CV U.τ)))
  | 0, _ => some []
  | m + 1, i => match st.get (vbase + i), boxesAt st m (i + 1) with | .box cs, some r => some (cs :: r) | _, _ => none

def mkRet (vs : List (Bool × List (CV U.τ))) : AV U.τ :=
  match vs with
  | [(true, cs)] => .agg cs
  | [(false, [c])] => .one c
  | vs => .tup vs

def outOf (P : Program) (rs : List ResultVar) (m : Nat) (st : St U) : Option (Out U.τ) :=
  match resVals P rs st, boxesAt st m 0 with
  | some vs, some bs => some ⟨mkRet vs, bs⟩
  | _, _ => none

/-- The state in which a function begins, from slot i on. -/
def startWs : List (Arg U.τ) → Nat → Nat → List (Nat × AV U.τ)
  | [], _, _ => []
  | .val true cs :: r, i, j => (i, .agg cs) :: startWs r (i + 1) j
  | .val false [c] :: r, i, j => (i, .one c) :: startWs r (i + 1) j
  | .val false _ :: r, i, j => (i, .one .any) :: startWs r (i + 1) j
  | .ptr cs :: r, i, j => (vbase + j, .box cs) :: (i, .one (.ref (vbase + j) 0)) :: startWs r (i + 1) (j + 1)

def nptr : List (Arg U.τ) → Nat
  | [] => 0
  | .ptr _ :: r => nptr r + 1
  | _ :: r => nptr r

/-- A whole function. -/
def evFn (n : Nat) (fn : Func) (args : List (Arg U.τ)) (k : Out U.τ → Option R) : Option R :=
  match fn.body with
  | none => none
  | some c =>
    let fin : St U → Option R := fun st => match outOf P fn.results.toList (nptr args) st with | some o => k o | none => none
    cond (Nat.ble adv.n fn.ntmps && Nat.ble fn.ntmps vbase && Nat.ble args.length fn.ntmps) (forceSt (St.puts [] (startWs args 0 0)) (ev P Φ adv n c fin (fun _ _ => none) fin)) none

end code
end Go.VI
