import Derived.Test.YtngopicaeoapnaaGreatDoorKFTy
import Derived.Test.YtngopicaeoapnaaGreatDoorKXT
set_option linter.unusedVariables false
set_option maxRecDepth 100000
namespace Go.VI
open Go
abbrev aa2 := aa0
def am0 (w : List UInt8) (g : aa2 → Int) (p : aa2 → Int → aa2) : TFd aa2 := { w := w, get := fun m => if g m = 0 then [] else as2 (g m).toNat, put := fun s m => match al1 s with | some v => if v = 0 then none else some (p m (v : Int)) | none => none }
def aq3 (w : List UInt8) (g : aa2 → List UInt8) (p : aa2 → List UInt8 → aa2) : TFd aa2 := { w := w, get := fun m => ag9 (g m), put := fun s m => if s = [] then none else (aj8 s).map (p m) }
def dOf (x : List UInt8 × Nat) : ac1 := ⟨x.1, (x.2 : Int)⟩
def dTo (d : ac1) : List UInt8 × Nat := (d.addr, d.seq.toNat)
def sOf (x : Nat × List UInt8) : aa8 := ⟨(x.1 : Int), x.2⟩
def sTo (d : aa8) : Nat × List UInt8 := (d.type_.toNat, d.data)
def as3 (w : List UInt8) (g : aa2 → List ac1) (p : aa2 → List ac1 → aa2) : TFd aa2 := { w := w, get := fun m => bi2 ((g m).map dTo), put := fun s m => (aR3 s).map fun l => p m (l.map dOf) }
def as4 (w : List UInt8) (g : aa2 → List aa8) (p : aa2 → List aa8 → aa2) : TFd aa2 := { w := w, get := fun m => bi3 ((g m).map sTo), put := fun s m => (aR4 s).map fun l => p m (l.map sOf) }
def aL2 : TFd aa2 := am0 [99, 109, 100] (fun m => m.cmd) (fun m v => { m with cmd := v })
def aL3 : TFd aa2 := am0 [118, 101, 114] (fun m => m.ver) (fun m v => { m with ver := v })
def az8 : TFd aa2 := aq3 [97, 117, 116, 104] (fun m => m.auth) (fun m v => { m with auth := v })
def aq0 : TFd aa2 := am0 [102, 97, 109, 105, 108, 121] (fun m => m.family) (fun m v => { m with family := v })
def ba0 : TFd aa2 := am0 [97, 101] (fun m => m.ae) (fun m v => { m with ae := v })
def an2 : TFd aa2 := aq3 [112, 114, 101, 102, 105, 120] (fun m => m.prefix_) (fun m v => { m with prefix_ := v })
def az9 : TFd aa2 := am0 [112, 108, 101, 110] (fun m => m.plen) (fun m v => { m with plen := v })
def aL4 : TFd aa2 := am0 [116, 97, 103] (fun m => m.tag) (fun m v => { m with tag := v })
def aA0 : TFd aa2 := aq3 [110, 101, 120, 116] (fun m => m.next) (fun m v => { m with next := v })
def aq1 : TFd aa2 := am0 [109, 101, 116, 114, 105, 99] (fun m => m.metric) (fun m v => { m with metric := v })
def ba1 : TFd aa2 := aq3 [105, 100] (fun m => m.id) (fun m v => { m with id := v })
def aL5 : TFd aa2 := am0 [115, 101, 113] (fun m => m.seq) (fun m v => { m with seq := v })
def aA1 : TFd aa2 := am0 [115, 101, 113, 50] (fun m => m.seq2) (fun m v => { m with seq2 := v })
def al4 : TFd aa2 := am0 [105, 110, 116, 101, 114, 118, 97, 108] (fun m => m.interval) (fun m v => { m with interval := v })
def au1 : TFd aa2 := am0 [102, 108, 97, 103, 115] (fun m => m.flags) (fun m v => { m with flags := v })
def aA2 : TFd aa2 := am0 [104, 111, 112, 115] (fun m => m.hops) (fun m v => { m with hops := v })
def au2 : TFd aa2 := am0 [110, 111, 110, 99, 101] (fun m => m.nonce) (fun m v => { m with nonce := v })
def aA3 : TFd aa2 := am0 [99, 111, 115, 116] (fun m => m.cost) (fun m v => { m with cost := v })
def aA4 : TFd aa2 := aq3 [97, 100, 100, 114] (fun m => m.addr) (fun m v => { m with addr := v })
def aA5 : TFd aa2 := aq3 [111, 114, 105, 103] (fun m => m.orig) (fun m v => { m with orig := v })
def aA6 : TFd aa2 := as3 [108, 105, 115, 116] (fun m => m.list) (fun m v => { m with list := v })
def au3 : TFd aa2 := am0 [116, 121, 112, 101] (fun m => m.type_) (fun m v => { m with type_ := v })
def aA7 : TFd aa2 := aq3 [100, 97, 116, 97] (fun m => m.data) (fun m v => { m with data := v })
def aA8 : TFd aa2 := as4 [115, 117, 98, 115] (fun m => m.subs) (fun m v => { m with subs := v })
def fsM : List (TFd aa2) := [aL2, aL3, az8, aq0, ba0, an2, az9, aL4, aA0, aq1, ba1, aL5, aA1, al4, au1, aA2, au2, aA3, aA4, aA5, aA6, au3, aA7, aA8]
def ak6 (k : Int) : aa2 := ⟨k, 0, 0, [], 0, 0, [], 0, 0, [], 0, [], 0, 0, 0, 0, 0, 0, 0, [], [], [], 0, [], []⟩
def rng (n : Int) : Prop := 0 ≤ n ∧ n ≤ 1099511627776
structure ad7 (m : aa2) : Prop where
  cmd : rng m.cmd
  ver : rng m.ver
  family : rng m.family
  ae : rng m.ae
  plen : rng m.plen
  tag : rng m.tag
  metric : rng m.metric
  seq : rng m.seq
  seq2 : rng m.seq2
  interval : rng m.interval
  flags : rng m.flags
  hops : rng m.hops
  nonce : rng m.nonce
  cost : rng m.cost
  type_ : rng m.type_
  list : ∀ d ∈ m.list, rng d.seq
  subs : ∀ d ∈ m.subs, rng d.type_
def aY0 : List (List UInt8) := [[], [114, 105, 112], [110, 103], [114, 114, 101, 113], [114, 114, 101, 112], [114, 101, 114, 114], [114, 114, 101, 112, 97, 99, 107], [97, 99, 107, 114, 101, 113], [97, 99, 107], [104, 101, 108, 108, 111], [105, 104, 117], [117, 112, 100, 97, 116, 101], [114, 111, 117, 116, 101, 114, 101, 113], [115, 101, 113, 110, 111, 114, 101, 113], [111, 112, 97, 113, 117, 101]]
def an3 (k : Int) : List UInt8 := if 1 ≤ k ∧ k ≤ 14 then aY0.getD k.toNat [] else []
def ap1 (w : List UInt8) : Int := if aY0.idxOf w < 15 then (aY0.idxOf w : Nat) else 0
def aj9 (m : aa2) : Option aa2 :=
  if m.kind = 1 then some ⟨m.kind, m.cmd, m.ver, m.auth, m.family, 0, m.prefix_, m.plen, m.tag, m.next, m.metric, [], 0, 0, 0, 0, 0, 0, 0, [], [], [], 0, [], []⟩
  else if m.kind = 2 then some ⟨m.kind, m.cmd, 0, [], 0, 0, m.prefix_, m.plen, m.tag, m.next, m.metric, [], 0, 0, 0, 0, 0, 0, 0, [], [], [], 0, [], []⟩
  else if m.kind = 3 then some ⟨m.kind, 0, 0, [], 0, 0, [], 0, 0, [], 0, [], m.seq, m.seq2, 0, m.flags, m.hops, m.nonce, 0, m.addr, m.orig, [], 0, [], m.subs⟩
  else if m.kind = 4 then some ⟨m.kind, 0, 0, [], 0, 0, [], m.plen, 0, [], 0, [], m.seq, 0, m.interval, m.flags, m.hops, 0, 0, m.addr, m.orig, [], 0, [], m.subs⟩
  else if m.kind = 5 then some ⟨m.kind, 0, 0, [], 0, 0, [], 0, 0, [], 0, [], 0, 0, 0, m.flags, 0, 0, 0, [], [], m.list, 0, [], m.subs⟩
  else if m.kind = 6 then some ⟨m.kind, 0, 0, [], 0, 0, [], 0, 0, [], 0, [], 0, 0, 0, 0, 0, 0, 0, [], [], [], 0, [], m.subs⟩
  else if m.kind = 7 then some ⟨m.kind, 0, 0, [], 0, 0, [], 0, 0, [], 0, [], 0, 0, m.interval, 0, 0, m.nonce, 0, [], [], [], 0, [], m.subs⟩
  else if m.kind = 8 then some ⟨m.kind, 0, 0, [], 0, 0, [], 0, 0, [], 0, [], 0, 0, 0, 0, 0, m.nonce, 0, [], [], [], 0, [], m.subs⟩
  else if m.kind = 9 then some ⟨m.kind, 0, 0, [], 0, 0, [], 0, 0, [], 0, [], m.seq, 0, m.interval, m.flags, 0, 0, 0, [], [], [], 0, [], m.subs⟩
  else if m.kind = 10 then some ⟨m.kind, 0, 0, [], 0, m.ae, [], 0, 0, [], 0, [], 0, 0, m.interval, 0, 0, 0, m.cost, m.addr, [], [], 0, [], m.subs⟩
  else if m.kind = 11 then some ⟨m.kind, 0, 0, [], 0, m.ae, m.prefix_, m.plen, 0, m.next, m.metric, m.id, m.seq, 0, m.interval, 0, 0, 0, 0, [], [], [], 0, [], m.subs⟩
  else if m.kind = 12 then some ⟨m.kind, 0, 0, [], 0, m.ae, m.prefix_, m.plen, 0, [], 0, [], 0, 0, 0, 0, 0, 0, 0, [], [], [], 0, [], m.subs⟩
  else if m.kind = 13 then some ⟨m.kind, 0, 0, [], 0, m.ae, m.prefix_, m.plen, 0, [], 0, m.id, m.seq, 0, 0, 0, m.hops, 0, 0, [], [], [], 0, [], m.subs⟩
  else if m.kind = 14 then some ⟨m.kind, 0, 0, [], 0, 0, [], 0, 0, [], 0, [], 0, 0, 0, 0, 0, 0, 0, [], [], [], m.type_, m.data, []⟩
  else none
open Classical in
noncomputable def ai4 (m : aa2) : Option (List UInt8) := if aj9 m = some m ∧ ad7 m then some (an3 m.kind ++ ad5 m fsM) else none
open Classical in
noncomputable def aB6 (s : List UInt8) : Option aa2 := match al0 fsM (ak6 (ap1 (ac4 32 s).1)) (ac4 32 s).2.1 (ac4 32 s).2.2 with
  | some (m, _, more) => if more = false ∧ aj9 m = some m then some m else none
  | none => none
structure bz8 (m : aa2) : Prop where
  auth : m.auth.length ≤ 100000
  prefix_ : m.prefix_.length ≤ 100000
  next : m.next.length ≤ 100000
  id : m.id.length ≤ 100000
  addr : m.addr.length ≤ 100000
  orig : m.orig.length ≤ 100000
  data : m.data.length ≤ 100000
  list : m.list.length ≤ 1000 ∧ ∀ d ∈ m.list, d.addr.length ≤ 100000
  subs : m.subs.length ≤ 1000 ∧ ∀ d ∈ m.subs, d.data.length ≤ 100000
open Classical in
noncomputable def aR5 : aa0 × Unit → Option (((List UInt8) × Bool × Unit) × Unit)
  | (m, _) => if bz8 m then some (((ai4 m).getD [], (ai4 m).isSome, ()), ()) else none
noncomputable def aY1 : (List UInt8) × Unit → Option ((aa0 × Bool × Unit) × Unit)
  | (s, _) => if s.length ≤ 1000000 then some (((aB6 s).getD (ak6 0), (aB6 s).isSome, ()), ()) else none
end Go.VI
