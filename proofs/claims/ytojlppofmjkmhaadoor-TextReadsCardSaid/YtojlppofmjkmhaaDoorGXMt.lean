import Derived.Test.YtojlppofmjkmhaaDoorGFTy
import Derived.Test.YtojlppofmjkmhaaDoorGXT
set_option linter.unusedVariables false
set_option maxRecDepth 100000
namespace Go.VI
open Go
abbrev XMsg := S_api_Msg
def numF (w : List UInt8) (g : XMsg → Int) (p : XMsg → Int → XMsg) : TFd XMsg := { w := w, get := fun m => if g m = 0 then [] else decT (g m).toNat, put := fun s m => match numRd s with | some v => if v = 0 then none else some (p m (v : Int)) | none => none }
def textF (w : List UInt8) (g : XMsg → List UInt8) (p : XMsg → List UInt8 → XMsg) : TFd XMsg := { w := w, get := fun m => hexs (g m), put := fun s m => if s = [] then none else (hexRd s).map (p m) }
def dOf (x : List UInt8 × Nat) : S_api_Dest := ⟨x.1, (x.2 : Int)⟩
def dTo (d : S_api_Dest) : List UInt8 × Nat := (d.addr, d.seq.toNat)
def sOf (x : Nat × List UInt8) : S_api_Sub := ⟨(x.1 : Int), x.2⟩
def sTo (d : S_api_Sub) : Nat × List UInt8 := (d.type_.toNat, d.data)
def listFd (w : List UInt8) (g : XMsg → List S_api_Dest) (p : XMsg → List S_api_Dest → XMsg) : TFd XMsg := { w := w, get := fun m => listT ((g m).map dTo), put := fun s m => (listRd s).map fun l => p m (l.map dOf) }
def subsFd (w : List UInt8) (g : XMsg → List S_api_Sub) (p : XMsg → List S_api_Sub → XMsg) : TFd XMsg := { w := w, get := fun m => subsT ((g m).map sTo), put := fun s m => (subsRd s).map fun l => p m (l.map sOf) }
def fd_cmd : TFd XMsg := numF [99, 109, 100] (fun m => m.cmd) (fun m v => { m with cmd := v })
def fd_ver : TFd XMsg := numF [118, 101, 114] (fun m => m.ver) (fun m v => { m with ver := v })
def fd_auth : TFd XMsg := textF [97, 117, 116, 104] (fun m => m.auth) (fun m v => { m with auth := v })
def fd_family : TFd XMsg := numF [102, 97, 109, 105, 108, 121] (fun m => m.family) (fun m v => { m with family := v })
def fd_ae : TFd XMsg := numF [97, 101] (fun m => m.ae) (fun m v => { m with ae := v })
def fd_prefix_ : TFd XMsg := textF [112, 114, 101, 102, 105, 120] (fun m => m.prefix_) (fun m v => { m with prefix_ := v })
def fd_plen : TFd XMsg := numF [112, 108, 101, 110] (fun m => m.plen) (fun m v => { m with plen := v })
def fd_tag : TFd XMsg := numF [116, 97, 103] (fun m => m.tag) (fun m v => { m with tag := v })
def fd_next : TFd XMsg := textF [110, 101, 120, 116] (fun m => m.next) (fun m v => { m with next := v })
def fd_metric : TFd XMsg := numF [109, 101, 116, 114, 105, 99] (fun m => m.metric) (fun m v => { m with metric := v })
def fd_id : TFd XMsg := textF [105, 100] (fun m => m.id) (fun m v => { m with id := v })
def fd_seq : TFd XMsg := numF [115, 101, 113] (fun m => m.seq) (fun m v => { m with seq := v })
def fd_seq2 : TFd XMsg := numF [115, 101, 113, 50] (fun m => m.seq2) (fun m v => { m with seq2 := v })
def fd_interval : TFd XMsg := numF [105, 110, 116, 101, 114, 118, 97, 108] (fun m => m.interval) (fun m v => { m with interval := v })
def fd_flags : TFd XMsg := numF [102, 108, 97, 103, 115] (fun m => m.flags) (fun m v => { m with flags := v })
def fd_hops : TFd XMsg := numF [104, 111, 112, 115] (fun m => m.hops) (fun m v => { m with hops := v })
def fd_nonce : TFd XMsg := numF [110, 111, 110, 99, 101] (fun m => m.nonce) (fun m v => { m with nonce := v })
def fd_cost : TFd XMsg := numF [99, 111, 115, 116] (fun m => m.cost) (fun m v => { m with cost := v })
def fd_addr : TFd XMsg := textF [97, 100, 100, 114] (fun m => m.addr) (fun m v => { m with addr := v })
def fd_orig : TFd XMsg := textF [111, 114, 105, 103] (fun m => m.orig) (fun m v => { m with orig := v })
def fd_list : TFd XMsg := listFd [108, 105, 115, 116] (fun m => m.list) (fun m v => { m with list := v })
def fd_type_ : TFd XMsg := numF [116, 121, 112, 101] (fun m => m.type_) (fun m v => { m with type_ := v })
def fd_data : TFd XMsg := textF [100, 97, 116, 97] (fun m => m.data) (fun m v => { m with data := v })
def fd_subs : TFd XMsg := subsFd [115, 117, 98, 115] (fun m => m.subs) (fun m v => { m with subs := v })
def fsM : List (TFd XMsg) := [fd_cmd, fd_ver, fd_auth, fd_family, fd_ae, fd_prefix_, fd_plen, fd_tag, fd_next, fd_metric, fd_id, fd_seq, fd_seq2, fd_interval, fd_flags, fd_hops, fd_nonce, fd_cost, fd_addr, fd_orig, fd_list, fd_type_, fd_data, fd_subs]
def zeroM (k : Int) : XMsg := ⟨k, 0, 0, [], 0, 0, [], 0, 0, [], 0, [], 0, 0, 0, 0, 0, 0, 0, [], [], [], 0, [], []⟩
def rng (n : Int) : Prop := 0 ≤ n ∧ n ≤ 1099511627776
structure Nums (m : XMsg) : Prop where
  cmd : rng m.cmd
  ver : rng m.ver
  family : rng m.family
  ae : rng m.ae
  plen : rng m.plen
  tag : rng m.tag
  metric : rng m.metric
  seq : rng m.seq
  seq2 : rng m.seq2
  interval : rng m.interval
  flags : rng m.flags
  hops : rng m.hops
  nonce : rng m.nonce
  cost : rng m.cost
  type_ : rng m.type_
  list : ∀ d ∈ m.list, rng d.seq
  subs : ∀ d ∈ m.subs, rng d.type_
def wordsK : List (List UInt8) := [[], [114, 105, 112], [110, 103], [114, 114, 101, 113], [114, 114, 101, 112], [114, 101, 114, 114], [114, 114, 101, 112, 97, 99, 107], [97, 99, 107, 114, 101, 113], [97, 99, 107], [104, 101, 108, 108, 111], [105, 104, 117], [117, 112, 100, 97, 116, 101], [114, 111, 117, 116, 101, 114, 101, 113], [115, 101, 113, 110, 111, 114, 101, 113], [111, 112, 97, 113, 117, 101]]
def wordM (k : Int) : List UInt8 := if 1 ≤ k ∧ k ≤ 14 then wordsK.getD k.toNat [] else []
def kindM (w : List UInt8) : Int := if wordsK.idxOf w < 15 then (wordsK.idxOf w : Nat) else 0
def bareX (m : XMsg) : Option XMsg :=
  if m.kind = 1 then some ⟨m.kind, m.cmd, m.ver, m.auth, m.family, 0, m.prefix_, m.plen, m.tag, m.next, m.metric, [], 0, 0, 0, 0, 0, 0, 0, [], [], [], 0, [], []⟩
  else if m.kind = 2 then some ⟨m.kind, m.cmd, 0, [], 0, 0, m.prefix_, m.plen, m.tag, m.next, m.metric, [], 0, 0, 0, 0, 0, 0, 0, [], [], [], 0, [], []⟩
  else if m.kind = 3 then some ⟨m.kind, 0, 0, [], 0, 0, [], 0, 0, [], 0, [], m.seq, m.seq2, 0, m.flags, m.hops, m.nonce, 0, m.addr, m.orig, [], 0, [], m.subs⟩
  else if m.kind = 4 then some ⟨m.kind, 0, 0, [], 0, 0, [], m.plen, 0, [], 0, [], m.seq, 0, m.interval, m.flags, m.hops, 0, 0, m.addr, m.orig, [], 0, [], m.subs⟩
  else if m.kind = 5 then some ⟨m.kind, 0, 0, [], 0, 0, [], 0, 0, [], 0, [], 0, 0, 0, m.flags, 0, 0, 0, [], [], m.list, 0, [], m.subs⟩
  else if m.kind = 6 then some ⟨m.kind, 0, 0, [], 0, 0, [], 0, 0, [], 0, [], 0, 0, 0, 0, 0, 0, 0, [], [], [], 0, [], m.subs⟩
  else if m.kind = 7 then some ⟨m.kind, 0, 0, [], 0, 0, [], 0, 0, [], 0, [], 0, 0, m.interval, 0, 0, m.nonce, 0, [], [], [], 0, [], m.subs⟩
  else if m.kind = 8 then some ⟨m.kind, 0, 0, [], 0, 0, [], 0, 0, [], 0, [], 0, 0, 0, 0, 0, m.nonce, 0, [], [], [], 0, [], m.subs⟩
  else if m.kind = 9 then some ⟨m.kind, 0, 0, [], 0, 0, [], 0, 0, [], 0, [], m.seq, 0, m.interval, m.flags, 0, 0, 0, [], [], [], 0, [], m.subs⟩
  else if m.kind = 10 then some ⟨m.kind, 0, 0, [], 0, m.ae, [], 0, 0, [], 0, [], 0, 0, m.interval, 0, 0, 0, m.cost, m.addr, [], [], 0, [], m.subs⟩
  else if m.kind = 11 then some ⟨m.kind, 0, 0, [], 0, m.ae, m.prefix_, m.plen, 0, m.next, m.metric, m.id, m.seq, 0, m.interval, 0, 0, 0, 0, [], [], [], 0, [], m.subs⟩
  else if m.kind = 12 then some ⟨m.kind, 0, 0, [], 0, m.ae, m.prefix_, m.plen, 0, [], 0, [], 0, 0, 0, 0, 0, 0, 0, [], [], [], 0, [], m.subs⟩
  else if m.kind = 13 then some ⟨m.kind, 0, 0, [], 0, m.ae, m.prefix_, m.plen, 0, [], 0, m.id, m.seq, 0, 0, 0, m.hops, 0, 0, [], [], [], 0, [], m.subs⟩
  else if m.kind = 14 then some ⟨m.kind, 0, 0, [], 0, 0, [], 0, 0, [], 0, [], 0, 0, 0, 0, 0, 0, 0, [], [], [], m.type_, m.data, []⟩
  else none
open Classical in
noncomputable def printM (m : XMsg) : Option (List UInt8) := if bareX m = some m ∧ Nums m then some (wordM m.kind ++ lineF m fsM) else none
open Classical in
noncomputable def readL (s : List UInt8) : Option XMsg := match readF fsM (zeroM (kindM (cutC 32 s).1)) (cutC 32 s).2.1 (cutC 32 s).2.2 with
  | some (m, _, more) => if more = false ∧ bareX m = some m then some m else none
  | none => none
structure SmallM (m : XMsg) : Prop where
  auth : m.auth.length ≤ 100000
  prefix_ : m.prefix_.length ≤ 100000
  next : m.next.length ≤ 100000
  id : m.id.length ≤ 100000
  addr : m.addr.length ≤ 100000
  orig : m.orig.length ≤ 100000
  data : m.data.length ≤ 100000
  list : m.list.length ≤ 1000 ∧ ∀ d ∈ m.list, d.addr.length ≤ 100000
  subs : m.subs.length ≤ 1000 ∧ ∀ d ∈ m.subs, d.data.length ≤ 100000
open Classical in
noncomputable def x_text_Print : S_api_Msg × Unit → Option (((List UInt8) × Bool × Unit) × Unit)
  | (m, _) => if SmallM m then some (((printM m).getD [], (printM m).isSome, ()), ()) else none
noncomputable def x_text_Read : (List UInt8) × Unit → Option ((S_api_Msg × Bool × Unit) × Unit)
  | (s, _) => if s.length ≤ 1000000 then some (((readL s).getD (zeroM 0), (readL s).isSome, ()), ()) else none
end Go.VI
