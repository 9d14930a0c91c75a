import Derived.Lib.Bytealg
import Derived.Test.YtojlppofmjkmhaaDoorGXMt
set_option linter.unusedVariables false
namespace Go.VI
open Go
def x_strings_Cut : (List UInt8) × (List UInt8) × Unit → Option (((List UInt8) × (List UInt8) × Bool × Unit) × Unit)
  | (s, [c], _) => if s.length ≤ 1000000 then some (((cutC c s).1, (cutC c s).2.1, (cutC c s).2.2, ()), ()) else none
  | _ => none
def x_strings_IndexByte : (List UInt8) × Int × Unit → Option ((Int × Unit) × Unit)
  | (s, c, _) => if s.length ≤ 1000000 then some ((Lib.indexByte s c.toNat.toUInt8, ()), ()) else none
def numE (s : List UInt8) : Int × Bool := match numRd s with | some v => ((v : Int), true) | none => (0, false)
def x_text_number : (List UInt8) × Unit → Option ((Int × Bool × Unit) × Unit)
  | (s, _) => if s.length ≤ 1000000 then some (((numE s).1, (numE s).2, ()), ()) else none
def valQ (s : List UInt8) : Int := (s.take 15).foldl (fun n b => n * 10 + (b.toNat : Int) - 48) 0
def hxQ (c : UInt8) : Nat := if ix c < 16 then ix c else 0
def bytQ : List UInt8 → List UInt8
  | a :: b :: r => UInt8.ofNat (hxQ a * 16 + hxQ b) :: bytQ r
  | _ => []
def destQ (p : List UInt8) : List S_api_Dest := match splitC 58 p with
  | [a, b] => [⟨bytQ a, valQ b⟩]
  | _ => []
def subQ (p : List UInt8) : List S_api_Sub := match splitC 58 p with
  | [a, b] => [⟨valQ a, bytQ b⟩]
  | _ => []
def moreQ (m : XMsg) (w s : List UInt8) : XMsg :=
  if w = fd_interval.w then { m with interval := valQ s }
  else if w = fd_flags.w then { m with flags := valQ s }
  else if w = fd_hops.w then { m with hops := valQ s }
  else if w = fd_nonce.w then { m with nonce := valQ s }
  else if w = fd_cost.w then { m with cost := valQ s }
  else if w = fd_addr.w then { m with addr := bytQ s }
  else if w = fd_orig.w then { m with orig := bytQ s }
  else if w = fd_type_.w then { m with type_ := valQ s }
  else if w = fd_data.w then { m with data := bytQ s }
  else if w = fd_list.w then { m with list := m.list ++ (splitC 44 s).flatMap destQ }
  else if w = fd_subs.w then { m with subs := m.subs ++ (splitC 44 s).flatMap subQ }
  else m
def setQ (m : XMsg) (w s : List UInt8) : XMsg :=
  if w = fd_cmd.w then { m with cmd := valQ s }
  else if w = fd_ver.w then { m with ver := valQ s }
  else if w = fd_auth.w then { m with auth := bytQ s }
  else if w = fd_family.w then { m with family := valQ s }
  else if w = fd_ae.w then { m with ae := valQ s }
  else if w = fd_prefix_.w then { m with prefix_ := bytQ s }
  else if w = fd_plen.w then { m with plen := valQ s }
  else if w = fd_tag.w then { m with tag := valQ s }
  else if w = fd_next.w then { m with next := bytQ s }
  else if w = fd_metric.w then { m with metric := valQ s }
  else if w = fd_id.w then { m with id := bytQ s }
  else if w = fd_seq.w then { m with seq := valQ s }
  else if w = fd_seq2.w then { m with seq2 := valQ s }
  else moreQ m w s
def partQ (m : XMsg) (p : List UInt8) : XMsg := match splitC 61 p with
  | [a, b] => setQ m a b
  | _ => m
def foldQ (s : List UInt8) : XMsg := ((splitC 32 s).drop 1).foldl partQ (zeroM (kindM ((splitC 32 s).getD 0 [])))
open Classical in
noncomputable def x_ref29_Read : (List UInt8) × Unit → Option ((S_api_Msg × Bool × Unit) × Unit)
  | (s, _) => if s.length ≤ 1000 then some (if printM (foldQ s) = some s then ((foldQ s, true, ()), ()) else ((zeroM 0, false, ()), ())) else none
end Go.VI
