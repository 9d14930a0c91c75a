import Derived.Calls
import Derived.Orders
import GoSem.Claims
import Derived.Laws.Slices
import Derived.Laws.BytesString
import Derived.Laws.Concat
import Derived.Laws.StructEq
import Derived.ChangeKeysEq
import Derived.Laws.World
import Derived.Laws.IdiomCopy
set_option linter.unusedVariables false
namespace Go.VI
open Go
inductive Fl where
 | ro | tight | app
inductive CV (τ:Nat→Type):Type where
 | any
 | bool (b:Bool)
 | int (k:IntKind) (n:Int)
 | str (s:List UInt8)
 | fn (f:Nat)
 | sl (e:Nat) (xs:List (τ e)) (f:Fl)
 | bs (e:Nat) (s:List UInt8) (f:Fl)
 | ref (s off:Nat)
 | sref (s:Nat)
 | eref (s:Nat) (i:Nat)
 | prow (s:Nat) (offs:List Nat)
 | pcell (s off:Nat)
 | aref (s off m:Nat) (i:Int)
inductive AV (τ:Nat→Type):Type where
 | undef
 | one (c:CV τ)
 | agg (cs:List (CV τ))
 | tup (vs:List (Bool × List (CV τ)))
 | box (cs:List (CV τ))
 | bblk (e:Nat) (s:List UInt8) (t:Bool)
 | im (cs:List (CV τ))
structure ad6 where
 τ:Nat→Type
 enc:(e:Nat)→τ e→List (CV τ)
 dec:(e:Nat)→List (CV τ)→Option (τ e)
 nb:Nat:=0
 env:World→Prop:=fun _=>True
 stable:∀ w w':World,(∀ b,b < nb→w'.heap[b]?=w.heap[b]?)→env w→env w':=by intros; trivial
abbrev St (U:ad6):=List (Nat × AV U.τ)
variable {U:ad6}
def St.get:St U→Nat→AV U.τ
 | [],_=>.undef
 | (t,v)::r,s=>cond (Nat.beq t s) v (St.get r s)
def St.put:St U→Nat→AV U.τ→St U
 | [],s,v=>[(s,v)]
 | (t,u)::r,s,v=>cond (Nat.beq t s) ((s,v)::r) (cond (Nat.blt s t) ((s,v)::(t,u)::r) ((t,u)::St.put r s v))
def St.puts:St U→List (Nat × AV U.τ)→St U
 | st,[]=>st
 | st,(s,v)::r=>St.puts (st.put s v) r
inductive Arg (τ:Nat→Type):Type where
 | val (agg:Bool) (cs:List (CV τ))
 | ptr (cs:List (CV τ))
structure Out (τ:Nat→Type) where
 ret:AV τ
 boxes:List (List (CV τ))
inductive ac6 (U:ad6):Type 1 where
 | fail
 | done (ws:List (Nat × AV U.τ))
 | read (s:Nat) (k:AV U.τ→ac6 U)
 | split (s:Nat) (k:Bool→ac6 U)
 | ite (p:Prop) (d:Decidable p) (a b:ac6 U)
 | opt {α:Type} (o:Option α) (k:α→ac6 U)
 | call (f:Nat) (args:List (Arg U.τ)) (k:Out U.τ→ac6 U)
def ac6.guard (p:Prop) [d:Decidable p] (t:ac6 U):ac6 U:=.ite p d t .fail
abbrev Tab (U:ad6):=(R:Type)→Nat→List (Arg U.τ)→(Out U.τ→Option R)→Option R
section eval
variable {R:Type} (Φ:Tab U)
def evT:ac6 U→St U→List Nat→(St U→List Nat→List (Nat × AV U.τ)→Option R)→Option R
 | .fail,_,_,_=>none
 | .done ws,st,log,k=>k st log ws
 | .read s f,st,log,k=>evT (f (st.get s)) st (s::log) k
 | .split s f,st,log,k=>
  match st.get s with
  | .one (.bool b)=>@ite _ (b=true) (instDecidableEqBool b true) (evT (f true) (st.put s (.one (.bool true))) (s::log) k) (evT (f false) (st.put s (.one (.bool false))) (s::log) k)
  | _=>none
 | .ite p d a b,st,log,k=>@ite _ p d (evT a st log k) (evT b st log k)
 | .opt o f,st,log,k=>o.bind fun x=>evT (f x) st log k
 | .call f args g,st,log,k=>Φ R f args fun o=>evT (g o) st log k
end eval
def aa9:Nat:=1000000
def CV.plain:CV U.τ→CV U.τ
 | .sl e xs .app=>.sl e xs .ro
 | .bs e s .app=>.bs e s .ro
 | c=>c
def bM5 (P:Program) (t:TypeId):Value→CV U.τ
 | .bool b=>.bool b
 | .int k n=>cond (decide (k.min≤n) && decide (n≤k.max)) (.int k n) .any
 | .string s=>cond (Nat.ble s.data.toList.length 9223372036854775807) (.str s.data.toList) .any
 | .slice none 0 0=>
  match P.underlying t with
  | some (.slice e)=>
   match P.underlying e with
   | some (.int .u8)=>.bs e [] .tight
   | _=>.sl e [] .tight
  | _=>.any
 | _=>.any
def aU2:Value→Bool
 | .agg _=>false
 | .tuple _=>false
 | _=>true
def flat (P:Program):Nat→TypeId→List TypeId
 | 0,t=>[t]
 | n+1,t=>
  match P.underlying t with
  | some (.struct fs)=>fs.toList.flatMap fun f=>flat P n f.type
  | some (.array m e)=>(List.replicate m (flat P n e)).flatten
  | _=>[t]
def aq9 (P:Program):List TypeId→List Value→List (CV U.τ)
 | t::ts,v::vs=>bM5 P t v::aq9 P ts vs
 | [],v::vs=>.any::aq9 P [] vs
 | _,[]=>[]
def bz1 (P:Program) (t:TypeId):Option (Bool × List (CV U.τ)):=
 match P.info? t with
 | some i=>
  match i.zero with
  | some (.agg cs)=>cond (cs.toList.all aU2) (some (true,aq9 P (flat P 6 t) cs.toList)) none
  | some v=>cond (aU2 v) (some (false,[bM5 P t v])) none
  | none=>none
 | none=>none
def av1 (t:Nat):AV U.τ→AV U.τ
 | .box _=>.one (.ref t 0)
 | .bblk ..=>.one (.sref t)
 | v=>v
def rdO (P:Program) (ty:TypeId) (x:Operand) (k:AV U.τ→ac6 U):ac6 U:=
 match x with
 | .tmp t=>cond (Nat.ble aa9 t) .fail (.read t fun v=>k (av1 t v))
 | .const (.agg cs)=>cond (cs.toList.all aU2) (k (.agg (aq9 P (flat P 6 ty) cs.toList))) .fail
 | .const v=>k (.one (bM5 P ty v))
 | .global _=>.fail
 | .func f=>k (.one (.fn f))
def rd1 (P:Program) (ty:TypeId) (x:Operand) (k:CV U.τ→ac6 U):ac6 U:=
 rdO P ty x fun | .one c=>k c | _=>.fail
def aP4 (P:Program) (ty:TypeId) (x:Operand) (k:IntKind→Int→ac6 U):ac6 U:=
 rd1 P ty x fun | .int i n=>k i n | _=>.fail
def cellsOf:AV U.τ→Option (Bool × List (CV U.τ))
 | .one .any | .one (.ref ..) | .one (.sref _) | .one (.eref ..) | .one (.prow ..) | .one (.pcell ..) | .one (.aref ..)=>none
 | .one c=>some (false,[c.plain])
 | .agg cs=>some (true,cs)
 | _=>none
def cj5 (P:Program) (ty:TypeId) (x:Operand) (k:Bool→List (CV U.τ)→ac6 U):ac6 U:=
 rdO P ty x fun v=>match cellsOf v with | some (a,cs)=>k a cs | none=>.fail
def AV.owner:AV U.τ→Bool
 | .box _ | .bblk ..=>true
 | _=>false
def wr (dst:Option Nat) (v:AV U.τ) (more:List (Nat × AV U.τ):=[]):ac6 U:=
 match dst with
 | none=>.done more
 | some d=>.read d fun old=>cond old.owner .fail (.done ((d,v)::more))
def an0 (op:BinOp) (k:IntKind) (x y:Int):Int:=
 match op with
 | .and=>k.wrap ((BitVec.ofInt k.bits x &&& BitVec.ofInt k.bits y).toNat:Nat)
 | .or=>k.wrap ((BitVec.ofInt k.bits x ||| BitVec.ofInt k.bits y).toNat:Nat)
 | .xor=>k.wrap ((BitVec.ofInt k.bits x ^^^ BitVec.ofInt k.bits y).toNat:Nat)
 | _=>k.wrap ((BitVec.ofInt k.bits x &&& ~~~ BitVec.ofInt k.bits y).toNat:Nat)
def am6 (k:IntKind) (x y:Int):Int:=k.wrap (2 ^ (min y.toNat k.bits) * x)
def ae4 (k:IntKind) (x y:Int):Int:=x.fdiv (2 ^ (min y.toNat k.bits))
def ad0:Int:=9223372036854775807
def af1 (n:Nat):Bool:=Nat.ble n 9223372036854775807
def ag8 (n:Nat):Bool:=Nat.ble n 35184372088832
def bM6 (x:AV U.τ) (k:List UInt8→ac6 U):ac6 U:=
 match x with
 | .one (.str s)=>k s
 | .one (.bs _ s _)=>k s
 | .one (.sref r)=>.read r fun | .bblk _ s _=>k s | _=>.fail
 | _=>.fail
def eR8 (P:Program) (t:TypeId) (x:AV U.τ) (k:CV U.τ→ac6 U):ac6 U:=
 match P.underlying t,x with
 | some .string,.one (.str s)=>k (.int .i64 s.length)
 | some (.slice _),.one (.sl _ xs _)=>k (.int .i64 xs.length)
 | some (.slice _),.one (.bs _ s _)=>k (.int .i64 s.length)
 | some (.slice _),.one (.sref r)=>.read r fun | .bblk _ s _=>k (.int .i64 s.length) | _=>.fail
 | some (.slice _),.one (.prow _ os)=>k (.int .i64 os.length)
 | _,_=>.fail
def cR5 (P:Program) (n:Nat) (lo hi:Option Operand) (k:Option Nat→Option Nat→ac6 U):ac6 U:=
 match lo,hi with
 | none,none=>k none none
 | some a,none=>aP4 P 0 a fun _ l=>.guard (0≤l∧l≤n) (k (some l.toNat) none)
 | none,some b=>aP4 P 0 b fun _ h=>.guard (0≤h∧h≤n) (k none (some h.toNat))
 | some a,some b=>aP4 P 0 a fun _ l=>aP4 P 0 b fun _ h=>.guard (0≤l∧l≤h∧h≤n) (k (some l.toNat) (some h.toNat))
def cut {α:Type} (s:List α):Option Nat→Option Nat→List α
 | none,none=>s
 | some l,none=>s.drop l
 | none,some h=>s.take h
 | some l,some h=>(s.take h).drop l
def cj6 (i:Int):Nat→(Nat→ac6 U)→Nat→ac6 U
 | 0,_,_=>.fail
 | n+1,k,j=>.ite (i=(j:Int)) inferInstance (k j) (cj6 i n k (j+1))
def eg5 (i:Int):List Int→Nat→Int
 | [],_=>0
 | [x],_=>x
 | x::y::r,j=>@ite _ (i=(j:Int)) (inferInstance) x (eg5 i (y::r) (j+1))
def eg6 (i:Int):List (List UInt8)→Nat→List UInt8
 | [],_=>[]
 | [x],_=>x
 | x::y::r,j=>@ite _ (i=(j:Int)) (inferInstance) x (eg6 i (y::r) (j+1))
def cE9 (k:IntKind):List (CV U.τ)→Option (List Int)
 | []=>some []
 | .int j n::r=>cond (decide (j=k)) (match cE9 k r with | some ns=>some (n::ns) | none=>none) none
 | _=>none
def cF0:List (CV U.τ)→Option (List (List UInt8))
 | []=>some []
 | .str s::r=>match cF0 r with | some ss=>some (s::ss) | none=>none
 | _=>none
def cF1 (i:Int) (cs:List (CV U.τ)):Option (CV U.τ):=
 match cs with
 | .int k n::r=>match cE9 k r with | some ns=>some (.int k (eg5 i (n::ns) 0)) | none=>none
 | .str s::r=>match cF0 r with | some ss=>some (.str (eg6 i (s::ss) 0)) | none=>none
 | _=>none
def dK4 (cs:List (CV U.τ)) (sz:Nat):Nat→Nat→Option (List (CV U.τ))
 | 0,_=>some []
 | m+1,p=>match cs[p]?,dK4 cs sz m (p+sz) with | some c,some r=>some (c::r) | _,_=>none
def bY6 (i:Int) (cs:List (CV U.τ)) (sz m:Nat):Nat→Nat→Option (List (CV U.τ))
 | 0,_=>some []
 | n+1,c=>match dK4 cs sz m c,bY6 i cs sz m n (c+1) with
  | some l,some r=>(match cF1 i l with | some x=>some (x::r) | none=>none)
  | _,_=>none
def eg7 (i:Int) (j:Nat) (c d:CV U.τ):Option (CV U.τ):=
 match c,d with
 | .int k a,.int k' b=>cond (decide (k=k')) (some (.int k (@ite _ (i=(j:Int)) (inferInstance) a b))) none
 | .str a,.str b=>some (.str (@ite _ (i=(j:Int)) (inferInstance) a b))
 | _,_=>none
def bs1 (i:Int) (c:CV U.τ):List (CV U.τ)→Nat→Option (List (CV U.τ))
 | [],_=>some []
 | d::r,j=>match eg7 i j c d,bs1 i c r (j+1) with | some x,some l=>some (x::l) | _,_=>none
def aj2 (cs:List (CV U.τ)) (off n:Nat):Option (List (CV U.τ)):=cond (Nat.ble (off+n) cs.length) (some ((cs.drop off).take n)) none
def al8 (P:Program) (t:TypeId) (cs:List (CV U.τ)) (off:Nat):Option (AV U.τ):=
 match P.underlying t with
 | some (.struct _) | some (.array ..)=>(aj2 cs off (P.cellsOf t)).map fun l=>.agg (l.map CV.plain)
 | some _=>match cs[off]? with | some c=>some (.one c) | none=>none
 | none=>none
def be4 (P:Program) (t:TypeId) (e:Nat) (k:ac6 U):ac6 U:=
 match P.underlying t with
 | some (.slice e')=>cond (Nat.beq e' e && Nat.ble 1 (P.cellsOf e)) k .fail
 | _=>.fail
def aI3 (P:Program) (t:TypeId):Bool:=
 match P.underlying t with
 | some (.struct _)=>false
 | some (.array ..)=>false
 | some _=>true
 | none=>false
def eg8 (P:Program) (e:TypeId) (i:Operand):Bool:=
 match i with
 | .tmp _=>match P.underlying e with | some .string=>Nat.beq (P.cellsOf e) 1 | some (.int _)=>Nat.beq (P.cellsOf e) 1 | _=>false
 | _=>false
def eI9:Operand→Bool
 | .tmp _=>true
 | _=>false
def dK5 (P:Program) (t:TypeId):Bool:=
 match P.underlying t with | some .string=>true | _=>false
def setCells (cs:List (CV U.τ)) (off:Nat):List (CV U.τ)→List (CV U.τ)
 | []=>cs
 | c::r=>setCells (cs.set off c) (off+1) r
def aa1 (n:Int):UInt8:=n.toNat.toUInt8
def ao2 (t:Nat):List Nat→Bool
 | []=>false
 | s::r=>cond (Nat.beq t s) true (ao2 t r)
structure Adv where
 n:Nat
 keep:List (List Nat)
 steal:List Nat
 mutb:List Nat
def bx0 (a:Adv) (dst:Option Nat) (v:AV U.τ):Bool:=
 match dst,v with
 | some d,.one (.sl _ _ .app) | some d,.one (.bs _ _ .app)=>ao2 d a.steal
 | _,_=>false
def AV.plain:AV U.τ→AV U.τ
 | .one c=>.one c.plain
 | v=>v
def dM2 (U:ad6) (e:Nat):List (List (CV U.τ))→Option (List (U.τ e))
 | []=>some []
 | c::r=>match U.dec e c,dM2 U e r with | some x,some xs=>some (x::xs) | _,_=>none
def aQ5:List (List (CV U.τ))→Option (List UInt8)
 | []=>some []
 | [.int .u8 n]::r=>match aQ5 r with | some s=>some (aa1 n::s) | none=>none
 | _=>none
def dh1 (P:Program) (e:TypeId):List (Nat × Operand)→Nat→(List (List (CV U.τ))→ac6 U)→ac6 U
 | [],_,k=>k []
 | (j,x)::r,i,k=>cond (Nat.beq j i) (cj5 P e x fun _ cs=>dh1 P e r (i+1) fun rest=>k (cs::rest)) .fail
def cF2 (P:Program) (e:TypeId):List (Nat × Operand)→Nat→(List (Nat × Nat)→ac6 U)→ac6 U
 | [],_,k=>k []
 | (j,x)::r,i,k=>cond (Nat.beq j i) (rdO P e x fun | .one (.ref s off)=>cF2 P e r (i+1) fun rest=>k ((s,off)::rest) | _=>.fail) .fail
def eJ0 (P:Program) (e:TypeId):Bool:=
 match P.underlying e with | some (.pointer _)=>true | _=>false
def cR6 (P:Program) (fs:Array Field):List (Nat × Operand)→List (CV U.τ)→(List (CV U.τ)→ac6 U)→ac6 U
 | [],cs,k=>k cs
 | (j,x)::r,cs,k=>
  match fs[j]? with
  | some f=>cj5 P f.type x fun _ ds=>cond (Nat.beq ds.length (P.cellsOf f.type) && Nat.ble (f.offset+ds.length) cs.length) (cR6 P fs r (setCells cs f.offset ds) k) .fail
  | none=>.fail
def dh2 (P:Program) (e:TypeId):List (Nat × Operand)→List (CV U.τ)→(List (CV U.τ)→ac6 U)→ac6 U
 | [],cs,k=>k cs
 | (j,x)::r,cs,k=>cj5 P e x fun _ ds=>cond (Nat.beq ds.length (P.cellsOf e) && Nat.ble (j * P.cellsOf e+ds.length) cs.length) (dh2 P e r (setCells cs (j * P.cellsOf e) ds) k) .fail
def bC9 (P:Program) (e:TypeId):Bool:=
 match P.info? e with
 | some i=>match i.zero with
  | some (.int .u8 0)=>Nat.beq i.size 1 && Nat.beq i.bytes 1 && (match P.underlying e with | some (.int .u8)=>true | _=>false)
  | _=>false
 | none=>false
def cF3 (P:Program) (t:TypeId) (c d:CV U.τ):Option Bool:=
 match P.underlying t,c,d with
 | some .bool,.bool a,.bool b=>some (a==b)
 | some (.int _),.int k a,.int j b=>cond (decide (k=j)) (some (a==b)) none
 | some .string,.str a,.str b=>some (a==b)
 | _,_,_=>none
def aF0 (P:Program) (e:TypeId):List (CV U.τ)→List (CV U.τ)→Option (List Bool)
 | [],[]=>some []
 | a::as,b::bs=>match cF3 P e a b,aF0 P e as bs with | some x,some l=>some (x::l) | _,_=>none
 | _,_=>none
def bz2 (P:Program) (t:TypeId) (as bs:List (CV U.τ)):Option (List Bool):=
 match P.underlying t with
 | some (.array n e)=>cond (Nat.beq (P.cellsOf e) 1 && Nat.beq as.length n) (aF0 P e as bs) none
 | _=>match as,bs with
  | [a],[b]=>(match cF3 P t a b with | some x=>some [x] | none=>none)
  | _,_=>none
def bg9 (P:Program):List Field→Nat→List (CV U.τ)→List (CV U.τ)→Option (List Bool)
 | [],_,_,_=>some []
 | f::fs,i,as,bs=>cond ((f.name != "_") && Nat.beq f.offset i)
   (match bz2 P f.type (as.take (P.cellsOf f.type)) (bs.take (P.cellsOf f.type)),bg9 P fs (i+P.cellsOf f.type) (as.drop (P.cellsOf f.type)) (bs.drop (P.cellsOf f.type)) with
   | some x,some y=>some (x++y) | _,_=>none) none
def ds7:List Bool→Bool
 | []=>true
 | [x]=>x
 | x::r=>x && ds7 r
def dK6 (P:Program) (t:TypeId) (as bs:List (CV U.τ)):Option Bool:=
 match P.underlying t with
 | some (.struct fs)=>cond (P.eqGuardType P.depth t || P.stoodInHeld t) none (match bg9 P fs.toList 0 as bs with | some l=>some (ds7 l) | none=>none)
 | some (.array _ _)=>cond (P.eqGuardType P.depth t) none (match bz2 P t as bs with | some l=>some (ds7 l) | none=>none)
 | _=>none
def ds8 (P:Program) (t:TypeId) (op:BinOp) (x y:AV U.τ) (k:CV U.τ→ac6 U):ac6 U:=
 match x,y with
 | .one (.int i a),.one (.int j b)=>
  match op with
  | .shl=>.guard (0≤b) (k (.int i (am6 i a b)))
  | .shr=>.guard (0≤b) (k (.int i (ae4 i a b)))
  | _=>
   cond (decide (i=j))
    (match op with
    | .add=>k (.int i (i.wrap (a+b)))
    | .sub=>k (.int i (i.wrap (a - b)))
    | .mul=>k (.int i (i.wrap (a * b)))
    | .quo=>.guard (b≠0) (k (.int i (i.wrap (a.tdiv b))))
    | .rem=>.guard (b≠0) (k (.int i (a.tmod b)))
    | .and=>k (.int i (an0 .and i a b))
    | .or=>k (.int i (an0 .or i a b))
    | .xor=>k (.int i (an0 .xor i a b))
    | .andNot=>k (.int i (an0 .andNot i a b))
    | .eql=>k (.bool (a==b))
    | .neq=>k (.bool (a != b))
    | .lss=>k (.bool (decide (a < b)))
    | .leq=>k (.bool (decide (a≤b)))
    | .gtr=>k (.bool (decide (b < a)))
    | .geq=>k (.bool (decide (b≤a)))
    | _=>.fail)
    .fail
 | .one (.str a),.one (.str b)=>
  match op with
  | .add=>.guard (af1 (a.length+b.length)=true) (k (.str (a++b)))
  | .eql=>k (.bool (a==b))
  | .neq=>k (.bool (!(a==b)))
  | _=>.fail
 | .one (.bool a),.one (.bool b)=>
  cond (match P.underlying t with | some .bool=>true | _=>false)
   (match op with
   | .eql=>k (.bool (a==b))
   | .neq=>k (.bool (!(a==b)))
   | _=>.fail) .fail
 | .agg as,.agg bs=>
  match op,dK6 P t as bs with
  | .eql,some r=>k (.bool r)
  | .neq,some r=>k (.bool (!r))
  | _,_=>.fail
 | _,_=>.fail
def dh3 (U:ad6) (P:Program) (e:TypeId):Bool:=
 match bz1 (U:=U) P e with
 | some (_,cs)=>Nat.beq cs.length (P.cellsOf e)
 | none=>false
def cR7 (P:Program) (u:TypeId):Bool:=
 match P.underlying u with
 | some (.slice _)=>true
 | some .string=>true
 | _=>false
def ah8:Int:=35184372088832
theorem eK5 {n:Nat} (h:af1 n=true):(n:Int)≤ad0:=by
 have:=Nat.le_of_ble_eq_true h
 unfold ad0; omega
theorem db9 {n:Nat} (h:ag8 n=true):(n:Int)≤ah8:=by
 have:=Nat.le_of_ble_eq_true h
 unfold ah8; omega
def eg9 (d:Nat) (from_:Option Nat) (f:Fl) (new old:AV U.τ):ac6 U:=
 match f,from_ with
 | .app,some t=>cond (Nat.beq t d) .fail (wr (some d) new [(t,old)])
 | .app,none=>.fail
 | .ro,_=>.fail
 | .tight,_=>wr (some d) new
def cR8 (P:Program) (d:Nat) (e:TypeId) (from_:Option Nat) (s x:AV U.τ):ac6 U:=
 match s,x with
 | .one (.sl e1 xs f),.one (.sl e2 ys _)=>
  match Nat.decEq e2 e1 with
  | .isTrue h=>
   cond (Nat.beq e1 e) (.guard (ag8 ((xs.length+ys.length) * P.bytesOf e)=true) (eg9 d from_ f (.one (.sl e1 (xs++h ▸ ys) .app)) (.one (.sl e1 xs .ro)))) .fail
  | .isFalse _=>.fail
 | .one (.bs e1 s f),x=>
  cond (Nat.beq e1 e && bC9 P e) (bM6 x fun y=>.guard (ag8 (s.length+y.length)=true) (eg9 d from_ f (.one (.bs e1 (s++y) .app)) (.one (.bs e1 s .ro)))) .fail
 | .one (.sref r),x=>.read r fun
  | .bblk e1 s true=>cond (Nat.beq e1 e && bC9 P e) (bM6 x fun y=>match y with
   | []=>.fail
   | b::y=>.guard (ag8 (s.length+(b::y).length)=true) (wr (some d) (.one (.bs e1 (s++b::y) .app)))) .fail
  | _=>.fail
 | _,_=>.fail
def av2:Operand→Option Nat
 | .tmp t=>some t
 | _=>none
def ep2 (s off:Nat) (cs:List (CV U.τ)) (c:CV U.τ) (y:Option Nat):ac6 U:=
 match c,y with
 | .sl _ _ .app,some y=>.done [(s,.box (cs.set off c)),(y,.one c.plain)]
 | .bs _ _ .app,some y=>.done [(s,.box (cs.set off c)),(y,.one c.plain)]
 | .sl _ _ .app,none=>.fail
 | .bs _ _ .app,none=>.fail
 | _,_=>.done [(s,.box (cs.set off c))]
def cR9 (P:Program):List (TypeId × Operand)→(List (Arg U.τ)→List (Nat × Nat × List (CV U.τ))→ac6 U)→ac6 U
 | [],k=>k [] []
 | (t,x)::r,k=>rdO P t x fun
  | .one (.ref s off)=>.read s fun
   | .box cs=>
    match P.underlying t with
    | some (.pointer e)=>
     match aj2 cs off (P.cellsOf e) with
     | some l=>cR9 P r fun as bs=>cond (ao2 s (bs.map (·.1))) .fail (k (.ptr l::as) ((s,off,cs)::bs))
     | none=>.fail
    | _=>.fail
   | _=>.fail
  | v=>match cellsOf v with
   | some (a,cs)=>cR9 P r fun as bs=>k (.val a cs::as) bs
   | none=>.fail
def aZ9:List (Nat × Nat × List (CV U.τ))→List (List (CV U.τ))→List (Nat × AV U.τ)
 | (s,off,cs)::bs,l::ls=>(s,.box (setCells cs off l))::aZ9 bs ls
 | _,_=>[]
def ac3 (P:Program) (adv:Adv) (o:Oper):ac6 U:=
 match o.op with
 | .move x=>
  rdO P o.type x fun v=>cond (bx0 adv o.dst v) (match av2 x with | some s=>wr o.dst v [(s,v.plain)] | none=>.fail) (wr o.dst v.plain)
 | .assign x=>
  rdO P o.type x fun v=>match v with
   | .one (.sl _ _ .app) | .one (.bs _ _ .app)=>(match av2 x with | some s=>wr o.dst v [(s,v.plain)] | none=>.fail)
   | _=>wr o.dst v
 | .pick c a b=>
  match c with
  | .tmp t=>.split t fun c=>rdO P o.type (cond c a b) fun v=>wr o.dst v.plain
  | _=>.fail
 | .alloc t=>match o.dst with
  | some d=>.read d fun | .undef=>(match bz1 P t with | some (_,cs)=>.done [(d,.box cs)] | none=>.fail) | _=>.fail
  | none=>.fail
 | .box t x=>match o.dst with
  | some d=>.read d fun | .undef=>cj5 P t x fun _ cs=>.done [(d,.box cs)] | _=>.fail
  | none=>.fail
 | .build t parts=>
  match P.underlying t,bz1 P t with
  | some (.struct fs),some (true,z)=>cond (fs.toList.all fun f=>Nat.ble 1 (P.cellsOf f.type)) (cR6 P fs parts.toList z fun cs=>wr o.dst (.agg cs)) .fail
  | some (.array _ e),some (true,z)=>cond (Nat.ble 1 (P.cellsOf e)) (dh2 P e parts.toList z fun cs=>wr o.dst (.agg cs)) .fail
  | _,_=>.fail
 | .buildSlice t n parts=>
  match P.underlying t with
  | some (.slice e)=>
   cond (eJ0 P e) (cond (Nat.beq (P.cellsOf e) 1 && Nat.ble n 16777216 && Nat.ble 1 n && (bz1 (U:=U) P e).isSome) (cF2 P e parts.toList 0 fun ps=>match ps with
    | []=>.fail
    | (s,o1)::r=>cond (Nat.beq (r.length+1) n && r.all fun p=>Nat.beq p.1 s) (match o.dst with | some d=>wr (some d) (.one (.prow s (o1::r.map (·.2)))) | none=>.fail) .fail) .fail) <|
   cond (Nat.ble 1 (P.cellsOf e) && Nat.ble (n * P.cellsOf e) 16777216 && (bz1 (U:=U) P e).isSome) (dh1 P e parts.toList 0 fun css=>cond (Nat.beq css.length n && css.all fun cs=>Nat.beq cs.length (P.cellsOf e))
    (cond (bC9 P e)
     (match aQ5 css with
     | some s=>match o.dst with
      | some d=>cond (ao2 d adv.mutb) (.read d fun | .undef=>.done [(d,.bblk e s true)] | _=>.fail) (wr (some d) (.one (.bs e s .tight)))
      | none=>.fail
     | none=>.fail)
     (match dM2 U e css,o.dst with | some xs,some d=>wr (some d) (.one (.sl e xs .tight)) | _,_=>.fail))
    .fail) .fail
  | _=>.fail
 | .makeSlice t l c=>
  match P.underlying t,o.dst,l,c with
  | some (.slice e),some d,.tmp a,.tmp b=>cond (bC9 P e && Nat.beq a b)
    (aP4 P 0 l fun _ n=>.read d fun | .undef=>.guard (0≤n∧n≤ah8) (.done [(d,.bblk e (List.replicate n.toNat 0) true)]) | _=>.fail) .fail
  | some (.slice e),some d,.const (.int _ n),.const (.int _ m)=>cond (bC9 P e && (n==m))
    (.read d fun | .undef=>.guard (0≤n∧n≤ah8) (.done [(d,.bblk e (List.replicate n.toNat 0) true)]) | _=>.fail) .fail
  | some (.slice e),some d,.const (.int _ n),.tmp _=>cond (bC9 P e && (n==0))
    (aP4 P 0 c fun _ m=>.guard (0≤m∧m≤ah8) (wr (some d) (.one (.bs e [] .app)))) .fail
  | _,_,_,_=>.fail
 | .load t x=>cond (Nat.ble 1 (P.cellsOf t)) (rdO P 0 x fun
  | .one (.ref s off)=>.read s fun
   | .box cs=>match al8 P t cs off with
    | some v=>cond (bx0 adv o.dst v) (wr o.dst v [(s,.box (setCells cs off (match v.plain with | .one c=>[c] | _=>[])))]) (wr o.dst v.plain)
    | none=>.fail
   | _=>.fail
  | .im cs=>match al8 P t cs 0 with
   | some v=>wr o.dst v.plain
   | none=>.fail
  | .one (.eref s i)=>.read s fun
   | .bblk _ b _=>.opt b[i]? fun (u:UInt8)=>cond (aI3 P t) (wr o.dst (.one (.int .u8 u.toNat))) .fail
   | _=>.fail
  | .one (.pcell s off)=>cond (aI3 P t) (wr o.dst (.one (.ref s off))) .fail
  | .one (.aref s off m i)=>.read s fun
   | .box cs=>match aj2 cs off m with
    | some l=>(match cF1 i l with | some c=>cond (aI3 P t) (wr o.dst (.one c)) .fail | none=>.fail)
    | none=>.fail
   | _=>.fail
  | _=>.fail) .fail
 | .store t a x=>cond o.dst.isSome .fail (rdO P 0 a fun
  | .one (.ref s off)=>.read s fun
   | .box cs=>rdO P t x fun v=>match v with
    | .one .any | .one (.ref ..) | .one (.sref _) | .one (.eref ..) | .one (.prow ..) | .one (.pcell ..) | .one (.aref ..)=>.fail
    | .one c=>cond (!(Nat.beq (P.cellsOf t) 1) || Nat.ble cs.length off) .fail
      (ep2 s off cs c (av2 x))
    | .agg ds=>cond (Nat.beq ds.length (P.cellsOf t) && Nat.ble 1 ds.length && Nat.ble (off+ds.length) cs.length) (.done [(s,.box (setCells cs off ds))]) .fail
    | _=>.fail
   | _=>.fail
  | .one (.aref s off m i)=>.read s fun
   | .box cs=>rdO P t x fun v=>match v with
    | .one (.str y)=>match aj2 cs off m with
     | some l=>(match bs1 i (.str y) l 0 with | some l'=>cond (Nat.beq (P.cellsOf t) 1) (.done [(s,.box (setCells cs off l'))]) .fail | none=>.fail)
     | none=>.fail
    | .one (.int k n)=>match aj2 cs off m with
     | some l=>(match bs1 i (.int k n) l 0 with | some l'=>cond (Nat.beq (P.cellsOf t) 1) (.done [(s,.box (setCells cs off l'))]) .fail | none=>.fail)
     | none=>.fail
    | _=>.fail
   | _=>.fail
  | .one (.eref s i)=>.read s fun
   | .bblk e b q=>aP4 P 0 x fun k n=>cond (decide (k=.u8) && Nat.beq (P.cellsOf t) 1) (.guard (i < b.length) (.done [(s,.bblk e (b.set i (aa1 n)) q)])) .fail
   | _=>.fail
  | _=>.fail)
 | .nilCheck x=>rdO P 0 x fun v=>match v with
  | .one (.ref ..) | .one (.eref ..) | .one (.pcell ..) | .one (.aref ..) | .im _=>wr o.dst v
  | _=>.fail
 | .binOp op t x y _=>rdO P t x fun a=>rdO P t y fun b=>ds8 P t op a b fun c=>wr o.dst (.one c)
 | .unOp op _ x=>rd1 P 0 x fun
  | .bool b=>(match op with | .not=>wr o.dst (.one (.bool (!b))) | _=>.fail)
  | .int k n=>(match op with
   | .neg=>wr o.dst (.one (.int k (k.wrap (0 - n))))
   | .xor=>wr o.dst (.one (.int k (an0 .xor k (cond k.signed (-1) k.max) n)))
   | _=>.fail)
  | _=>.fail
 | .convert s d x=>rdO P s x fun v=>
  match P.underlying s,P.underlying d,v with
  | some _,some (.int k),.one (.int _ n)=>wr o.dst (.one (.int k (k.wrap n)))
  | some .string,some .string,.one (.str s)=>wr o.dst (.one (.str s))
  | some .string,some (.slice e),.one (.str s)=>cond (bC9 P e)
    (match o.dst with
    | some d=>cond (ao2 d adv.mutb) (.read d fun | .undef=>.done [(d,.bblk e s false)] | _=>.fail) (wr (some d) (.one (.bs e s .app)))
    | none=>.fail) .fail
  | some (.slice e),some .string,v=>cond (bC9 P e) (match v with | .one (.str _)=>.fail | _=>bM6 v fun s=>wr o.dst (.one (.str s))) .fail
  | _,_,_=>.fail
 | .slice t x lo hi mx=>match mx with
  | some _=>.fail
  | none=>rdO P t x fun v=>match v with
   | .one (.str s)=>cond (dK5 P t) (cR5 P s.length lo hi fun l h=>wr o.dst (.one (.str (cut s l h)))) .fail
   | .one (.sl e xs _)=>be4 P t e (cR5 P xs.length lo hi fun l h=>wr o.dst (.one (.sl e (cut xs l h) .ro)))
   | .one (.bs e s _)=>be4 P t e (cR5 P s.length lo hi fun l h=>wr o.dst (.one (.bs e (cut s l h) .ro)))
   | _=>.fail
 | .fieldAddr t x j=>
  match P.underlying t with
  | some (.struct fs)=>match fs[j]? with
   | some f=>cond (Nat.beq (P.cellsOf f.type) 0) .fail (rdO P 0 x fun
    | .one (.ref s off)=>wr o.dst (.one (.ref s (off+f.offset)))
    | .im cs=>wr o.dst (.im (cs.drop f.offset))
    | _=>.fail)
   | none=>.fail
  | _=>.fail
 | .field t x j=>
  match P.underlying t with
  | some (.struct fs)=>match fs[j]? with
   | some f=>cond (Nat.ble 1 (P.cellsOf f.type)) (rdO P 0 x fun
    | .agg cs=>match al8 P f.type cs f.offset with | some v=>wr o.dst v | none=>.fail
    | _=>.fail) .fail
   | none=>.fail
  | _=>.fail
 | .indexAddr t x i=>rdO P 0 x fun v=>aP4 P 0 i fun _ n=>
  match v with
  | .one (.sl e xs _)=>be4 P t e (.guard (0≤n) (.opt xs[n.toNat]? fun (y:U.τ e)=>wr o.dst (.im (U.enc e y))))
  | .one (.bs e s _)=>be4 P t e (.guard (0≤n) (.opt s[n.toNat]? fun (y:UInt8)=>wr o.dst (.im [.int .u8 y.toNat])))
  | .one (.sref s)=>.read s fun
   | .bblk e b _=>be4 P t e (.guard (0≤n∧n < b.length) (wr o.dst (.one (.eref s n.toNat))))
   | _=>.fail
  | .one (.prow s os)=>match P.underlying t with
   | some (.slice e)=>cond (Nat.beq (P.cellsOf e) 1) (cj6 n os.length (fun j=>match os[j]? with | some q=>wr o.dst (.one (.pcell s q)) | none=>.fail) 0) .fail
   | _=>.fail
  | .one (.ref s off)=>match P.underlying t with
   | some (.array m e)=>cond (eg8 P e i) (.guard (0≤n∧n < m) (wr o.dst (.one (.aref s off m n)))) (cond (Nat.ble 1 (P.cellsOf e)) (cj6 n m (fun j=>wr o.dst (.one (.ref s (off+j * P.cellsOf e)))) 0) .fail)
   | _=>.fail
  | .im cs=>match P.underlying t with
   | some (.array m e)=>cond (Nat.ble 1 (P.cellsOf e)) (cj6 n m (fun j=>wr o.dst (.im (cs.drop (j * P.cellsOf e)))) 0) .fail
   | _=>.fail
  | _=>.fail
 | .index t x i=>rdO P t x fun v=>aP4 P 0 i fun _ n=>
  match v with
  | .one (.str s)=>cond (dK5 P t) (.guard (0≤n) (.opt s[n.toNat]? fun (y:UInt8)=>wr o.dst (.one (.int .u8 y.toNat)))) .fail
  | .agg cs=>match P.underlying t with
   | some (.array m e)=>cond (Nat.ble 1 (P.cellsOf e)) (match (cond (eI9 i) (bY6 n cs (P.cellsOf e) m (P.cellsOf e) 0) none) with
    | some l=>.guard (0≤n∧n < m) (match al8 P e l 0 with | some v=>wr o.dst v | none=>.fail)
    | none=>cj6 n m (fun j=>match al8 P e cs (j * P.cellsOf e) with | some v=>wr o.dst v | none=>.fail) 0) .fail
   | _=>.fail
  | _=>.fail
 | .extract x i=>rdO P 0 x fun
  | .tup vs=>match vs[i]? with
   | some (true,cs)=>wr o.dst (.agg cs)
   | some (false,[c])=>wr o.dst (.one c)
   | _=>.fail
  | _=>.fail
 | .call c=>
  match c.callee with
  | .value f=>rd1 P 0 f fun
   | .fn f=>match P.funcs[f]? with
    | some fn=>cond (Nat.beq fn.params.size c.args.size)
      (cR9 P (fn.params.toList.zip c.args.toList) fun as bs=>.call f as fun out=>cond (Nat.beq out.boxes.length bs.length) (wr o.dst out.ret (aZ9 bs out.boxes)) .fail) .fail
    | none=>.fail
   | _=>.fail
  | .builtin .len=>match c.args.toList,c.argTypes.toList with
   | [x],[t]=>rdO P t x fun v=>eR8 P t v fun r=>wr o.dst (.one r)
   | _,_=>.fail
  | .builtin .append=>match c.args.toList,c.argTypes.toList with
   | [s,x],[t,u]=>match P.underlying t with
    | some (.slice e)=>cond (Nat.ble 1 (P.cellsOf e) && Nat.ble 1 (P.bytesOf e) && Nat.ble (P.bytesOf e) 1000000 && dh3 U P e && cR7 P u)
      (match o.dst with | some d=>rdO P t s fun v=>rdO P u x fun y=>cR8 P d e (av2 s) v y | none=>.fail) .fail
    | _=>.fail
   | _,_=>.fail
  | .builtin .copy=>match c.args.toList,c.argTypes.toList with
   | [s,x],[t,u]=>rdO P t s fun
    | .one (.sref r)=>.read r fun
     | .bblk e b q=>be4 P t e <| rdO P u x fun
      | .one (.str y)=>wr o.dst (.one (.int .i64 (min y.length b.length:Nat))) [(r,.bblk e (y.take b.length++b.drop y.length) q)]
      | _=>.fail
     | _=>.fail
    | _=>.fail
   | _,_=>.fail
  | .builtin .min=>match c.args.toList with
   | [x,y]=>aP4 P 0 x fun k a=>aP4 P 0 y fun j b=>cond (decide (k=j)) (wr o.dst (.one (.int k (if b < a then b else a)))) .fail
   | _=>.fail
  | .builtin .max=>match c.args.toList with
   | [x,y]=>aP4 P 0 x fun k a=>aP4 P 0 y fun j b=>cond (decide (k=j)) (wr o.dst (.one (.int k (if b > a then b else a)))) .fail
   | _=>.fail
  | _=>.fail
 | _=>.fail
def ar0 (P:Program) (adv:Adv) (ops:List Oper) (o:Oper):ac6 U:=
 cond (match o.dst with | some d=>Nat.ble adv.n d | none=>false) .fail <|
 match o.guard with
 | none=>ac3 P adv o
 | some (j,want)=>
  match ops[j]? with
  | some g=>match g.dst with
   | some t=>.read t fun
    | .tup []=>wr o.dst (.tup [])
    | _=>.split t fun b=>cond (b==want) (ac3 P adv o) (wr o.dst (.tup []))
   | none=>.fail
  | none=>.fail
def ar1 (xs ys:List Nat):Bool:=
 match xs with
 | []=>true
 | x::r=>cond (ao2 x ys) false (ar1 r ys)
abbrev Log:=List (Nat × List Nat × List Nat × Option (Nat × Nat))
def aK9 (P:Program) (σ:Nat→AV U.τ) (o:Oper):Option (Nat × Nat):=
 match o.guard,o.op with
 | none,.load t (.tmp a)=>match σ a with
  | .one (.ref s off)=>cond (aI3 P t) (some (s,off)) none
  | _=>none
 | _,_=>none
def bs2 (s:Nat):List Nat→List Nat
 | []=>[]
 | x::r=>cond (Nat.beq x s) (bs2 s r) (x::bs2 s r)
def dM3 (rd wr:List Nat) (sf:Option (Nat × Nat)) (rd' wr':List Nat) (sf':Option (Nat × Nat)):Bool:=
 match sf,sf' with
 | some (s,off),some (s',off')=>Nat.beq s s' && !(Nat.beq off off') && ar1 wr wr' && ar1 (bs2 s wr) rd' && ar1 (bs2 s rd) wr'
 | _,_=>false
def cj7 (bits:Nat) (rd wr:List Nat) (sf:Option (Nat × Nat)):Log→Bool
 | []=>true
 | (j,rd',wr',sf')::r=>cond (Nat.testBit bits j || (ar1 wr wr' && ar1 wr rd' && ar1 rd wr') || dM3 rd wr sf rd' wr' sf') (cj7 bits rd wr sf r) false
section code
variable {R:Type} (P:Program) (Φ:Tab U) (adv:Adv)
def dK7 (all:List Oper) (draw:Bool) (before:List Nat):List Oper→Nat→Log→St U→(St U→Option R)→Option R
 | [],_,_,st,k=>k st
 | o::rest,i,logs,st,k=>
  evT Φ (ar0 P adv all o) st [] fun st rd ws=>
   cond (cond draw (cj7 (before.getD i 0) rd (ws.map (·.1)) (aK9 P st.get o) logs) true)
    (dK7 all draw before rest (i+1) (cond draw ((i,rd,ws.map (·.1),aK9 P st.get o)::logs) []) (st.puts ws) k) none
def aj7:AV U.τ→Option Nat
 | .one (.ref s _) | .one (.sref s) | .one (.eref s _) | .one (.prow s _) | .one (.pcell s _) | .one (.aref s _ _ _)=>some s
 | _=>none
def forget (t:Nat):St U→St U
 | []=>[]
 | (s,v)::r=>cond (Nat.beq s t) (forget t r) (cond (match aj7 v with | some u=>Nat.beq u t | none=>false) ((s,.one .any)::forget t r) ((s,v)::forget t r))
def freshen:List Oper→St U→St U
 | [],st=>st
 | o::r,st=>freshen r (match o.dst with | some d=>cond (st.get d).owner (forget d st) st | none=>st)
def dh4 (keep:List Nat):St U→List Nat
 | []=>[]
 | (s,v)::r=>cond (ao2 s keep || Nat.ble aa9 s) (match aj7 v with | some u=>u::dh4 keep r | none=>dh4 keep r) (dh4 keep r)
def cF4 (keep:List Nat) (v:AV U.τ):AV U.τ:=
 match aj7 v with
 | some u=>cond (ao2 u keep || Nat.ble aa9 u) v (.one .any)
 | none=>v
def bM7 (keep:List Nat):St U→St U
 | []=>[]
 | (s,v)::r=>cond (ao2 s keep || Nat.ble aa9 s) ((s,cF4 keep v)::bM7 keep r) (bM7 keep r)
def settle (keep:List Nat) (st:St U):St U:=bM7 (keep++dh4 keep st) st
def dM4 (c:CV U.τ) (k:CV U.τ→Option R):Option R:=
 match c with
 | .any=>k .any
 | .bool b=>k (.bool b)
 | .int i n=>k (.int i n)
 | .str s=>k (.str s)
 | .fn f=>k (.fn f)
 | .sl e xs .ro=>k (.sl e xs .ro)
 | .sl e xs .tight=>k (.sl e xs .tight)
 | .sl e xs .app=>k (.sl e xs .app)
 | .bs e s .ro=>k (.bs e s .ro)
 | .bs e s .tight=>k (.bs e s .tight)
 | .bs e s .app=>k (.bs e s .app)
 | .ref s o=>k (.ref s o)
 | .sref s=>k (.sref s)
 | .eref s i=>k (.eref s i)
 | .prow s os=>k (.prow s os)
 | .pcell s o=>k (.pcell s o)
 | .aref s o m i=>k (.aref s o m i)
def be5:List (CV U.τ)→(List (CV U.τ)→Option R)→Option R
 | [],k=>k []
 | c::r,k=>dM4 c fun c=>be5 r fun r=>k (c::r)
def bM8:List (Bool × List (CV U.τ))→(List (Bool × List (CV U.τ))→Option R)→Option R
 | [],k=>k []
 | (true,cs)::r,k=>be5 cs fun cs=>bM8 r fun r=>k ((true,cs)::r)
 | (false,cs)::r,k=>be5 cs fun cs=>bM8 r fun r=>k ((false,cs)::r)
def bN7 (v:AV U.τ) (k:AV U.τ→Option R):Option R:=
 match v with
 | .undef=>k .undef
 | .one c=>dM4 c fun c=>k (.one c)
 | .agg cs=>be5 cs fun cs=>k (.agg cs)
 | .tup vs=>bM8 vs fun vs=>k (.tup vs)
 | .box cs=>be5 cs fun cs=>k (.box cs)
 | .bblk e s true=>k (.bblk e s true)
 | .bblk e s false=>k (.bblk e s false)
 | .im cs=>be5 cs fun cs=>k (.im cs)
def be6:St U→(St U→Option R)→Option R
 | [],k=>k []
 | (s,v)::r,k=>bN7 v fun v=>be6 r fun r=>k ((s,v)::r)
def be7:List Oper→Nat→Bool
 | [],_=>true
 | o::r,i=>cond (o.after.toList.all fun e=>!(Region.binds .any e) || Nat.blt e.on i) (be7 r (i+1)) false
def be8:List Nat→(List Nat→Option R)→Option R
 | [],k=>k []
 | 0::r,k=>be8 r fun r=>k (0::r)
 | (n+1)::r,k=>be8 r fun r=>k ((n+1)::r)
theorem bN8:∀ (l:List Nat) (k:List Nat→Option R),be8 l k=k l
 | [],_=>rfl
 | 0::r,k=>by rw [be8,bN8 r]
 | (n+1)::r,k=>by rw [be8,bN8 r]
def dc0 (id:Nat) (ops:List Oper) (draw:Bool) (st:St U) (k:St U→Option R):Option R:=
 cond (draw && !(be7 ops 0)) none <| be8 (cond draw (Region.before ops.toArray).toList []) fun before=>dK7 P Φ adv ops draw before ops 0 [] (freshen ops st) fun st=>be6 (settle (adv.keep.getD id []) st) k
def CV.loosen:CV U.τ→CV U.τ
 | .sl e xs .tight=>.sl e xs .app
 | .bs e s .tight=>.bs e s .app
 | c=>c
def loosen:St U→St U
 | []=>[]
 | (s,.one c)::r=>(s,.one c.loosen)::loosen r
 | (s,.box cs)::r=>(s,.box (cs.map CV.loosen))::loosen r
 | (s,v)::r=>(s,v)::loosen r
def cS0:Nat→((St U→Option R)→St U→Option R)→St U→Option R
 | 0,_,_=>none
 | m+1,F,st=>F (fun st'=>be6 (loosen st') (cS0 m F)) st
def dK8 (t:Nat) (b:Bool) (st:St U):St U:=cond (ao2 999999 adv.mutb) (st.put t (.one (.bool b))) st
def ev (n:Nat):Code→(St U→Option R)→(Nat→St U→Option R)→(St U→Option R)→St U→Option R
 | .skip,kn,_,_,st=>kn st
 | .region id ops draw,kn,_,_,st=>dc0 P Φ adv id ops.toList draw st kn
 | .seq a b,kn,ke,kr,st=>ev n a (ev n b kn ke kr) ke kr st
 | .cond c a b,kn,ke,kr,st=>
  match c with
  | .tmp t=>
   match st.get t with
   | .one (.bool x)=>@ite _ (x=true) (instDecidableEqBool x true) (ev n a kn ke kr (dK8 adv t true st)) (ev n b kn ke kr (dK8 adv t false st))
   | _=>none
  | .const (.bool x)=>cond x (ev n a kn ke kr st) (ev n b kn ke kr st)
  | _=>none
 | .block id c,kn,ke,kr,st=>ev n c kn (fun id' st=>cond (Nat.beq id' id) (kn st) (ke id' st)) kr st
 | .loop c,_,ke,kr,st=>be6 (loosen st) (cS0 n fun k=>ev n c k ke kr)
 | .exit id,_,ke,_,st=>ke id st
 | .ret,_,_,kr,st=>kr st
 | .label _,kn,_,_,st=>kn st
 | _,_,_,_,_=>none
inductive Dir where
 | l | r | at (m:Nat) | inn (m:Nat)
def dc1 (n:Nat):Code→List Dir→(St U→Option R)→(Nat→St U→Option R)→(St U→Option R)→St U→Option R
 | c,[],kn,ke,kr,st=>ev P Φ adv n c kn ke kr st
 | .seq a b,.l::p,kn,ke,kr,st=>dc1 n a p (ev P Φ adv n b kn ke kr) ke kr st
 | .seq _ b,.r::p,kn,ke,kr,st=>dc1 n b p kn ke kr st
 | .cond _ a _,.l::p,kn,ke,kr,st=>dc1 n a p kn ke kr st
 | .cond _ _ b,.r::p,kn,ke,kr,st=>dc1 n b p kn ke kr st
 | .block id c,.l::p,kn,ke,kr,st=>dc1 n c p kn (fun id' st=>cond (Nat.beq id' id) (kn st) (ke id' st)) kr st
 | .loop c,.at m::_,_,ke,kr,st=>cS0 m (fun k=>ev P Φ adv n c k ke kr) st
 | .loop c,.inn m::p,_,ke,kr,st=>dc1 n c p (fun st'=>be6 (loosen st') (cS0 m fun k=>ev P Φ adv n c k ke kr)) ke kr st
 | _,_,_,_,_,_=>none
def cF5 (P:Program):ResultVar→St U→Option (Bool × List (CV U.τ))
 | .tmp t,st=>cellsOf (av1 t (st.get t))
 | .cell a t,st=>cond (Nat.ble aa9 a) none <|
  match av1 a (st.get a) with
  | .one (.ref s off)=>
   match st.get s with
   | .box cs=>cond (Nat.ble 1 (P.cellsOf t)) ((al8 P t cs off).bind fun v=>cellsOf v) none
   | _=>none
  | _=>none
def bs3 (P:Program):List ResultVar→St U→Option (List (Bool × List (CV U.τ)))
 | [],_=>some []
 | r::rs,st=>match cF5 P r st,bs3 P rs st with | some x,some xs=>some (x::xs) | _,_=>none
def bM9 (st:St U):Nat→Nat→Option (List (List (CV U.τ)))
 | 0,_=>some []
 | m+1,i=>match st.get (aa9+i),bM9 st m (i+1) with | .box cs,some r=>some (cs::r) | _,_=>none
def eJ1 (vs:List (Bool × List (CV U.τ))):AV U.τ:=
 match vs with
 | [(true,cs)]=>.agg cs
 | [(false,[c])]=>.one c
 | vs=>.tup vs
def cS1 (P:Program) (rs:List ResultVar) (m:Nat) (st:St U):Option (Out U.τ):=
 match bs3 P rs st,bM9 st m 0 with
 | some vs,some bs=>some ⟨eJ1 vs,bs⟩
 | _,_=>none
def ah9:List (Arg U.τ)→Nat→Nat→List (Nat × AV U.τ)
 | [],_,_=>[]
 | .val true cs::r,i,j=>(i,.agg cs)::ah9 r (i+1) j
 | .val false [c]::r,i,j=>(i,.one c)::ah9 r (i+1) j
 | .val false _::r,i,j=>(i,.one .any)::ah9 r (i+1) j
 | .ptr cs::r,i,j=>(aa9+j,.box cs)::(i,.one (.ref (aa9+j) 0))::ah9 r (i+1) (j+1)
def cF6:List (Arg U.τ)→Nat
 | []=>0
 | .ptr _::r=>cF6 r+1
 | _::r=>cF6 r
def dM5 (n:Nat) (fn:Func) (args:List (Arg U.τ)) (k:Out U.τ→Option R):Option R:=
 match fn.body with
 | none=>none
 | some c=>
  let fin:St U→Option R:=fun st=>match cS1 P fn.results.toList (cF6 args) st with | some o=>k o | none=>none
  cond (Nat.ble adv.n fn.ntmps && Nat.ble fn.ntmps aa9 && Nat.ble args.length fn.ntmps) (be6 (St.puts [] (ah9 args 0 0)) (ev P Φ adv n c fin (fun _ _=>none) fin)) none
end code
end Go.VI
set_option linter.unusedSimpArgs false
namespace Go.VI
open Go
structure ab7 where
 I:Nat→Nat→Prop
 loc:Nat→Nat × Nat
 who:Nat→Option (Nat × Option Nat)
def one1:Value→Prop
 | .agg _=>False
 | .tuple _=>False
 | _=>True
def cont {U:ad6}:CV U.τ→Option (Nat × List (List (CV U.τ)) × Fl)
 | .sl e xs f=>some (e,xs.map (U.enc e),f)
 | .bs e s f=>some (e,s.map fun b=>[.int .u8 b.toNat],f)
 | _=>none
abbrev ac0 (U:ad6):=Nat→AV U.τ
def upd {U:ad6} (σ:ac0 U) (s:Nat) (v:AV U.τ):ac0 U:=fun t=>if t=s then v else σ t
def ad1 {U:ad6} (σ:ac0 U):List (Nat × AV U.τ)→ac0 U
 | []=>σ
 | (s,v)::r=>ad1 (upd σ s v) r
theorem aQ6 {a b:Nat} (h:a≠b):Nat.beq a b=false:=by
 cases hb:Nat.beq a b with
 | false=>rfl
 | true=>exact absurd (Nat.eq_of_beq_eq_true hb) h
theorem ds9 {U:ad6} (st:St U) (s:Nat) (v:AV U.τ):(st.put s v).get=upd st.get s v:=by
 funext t
 induction st with
 | nil=>
  simp only [St.put,St.get,upd]
  by_cases h:t=s
  ·subst h; simp
  ·have:Nat.beq s t=false:=aQ6 (Ne.symm h)
   simp [h,this]
 | cons p r ih=>
  obtain ⟨q,u⟩:=p
  simp only [St.put]
  by_cases hq:q=s
  ·subst hq
   simp only [Nat.beq_refl,cond_true,St.get,upd]
   by_cases h:t=q
   ·subst h; simp
   ·have:Nat.beq q t=false:=aQ6 (Ne.symm h)
    simp [h,this]
  ·have h1:Nat.beq q s=false:=aQ6 hq
   simp only [h1,cond_false]
   cases hb:Nat.blt s q
   ·simp only [cond_false,St.get]
    rw [ih]
    by_cases h:q=t
    ·subst h; simp [upd,hq]
    ·have:Nat.beq q t=false:=aQ6 h
     simp [this,upd]
   ·simp only [cond_true,St.get,upd]
    by_cases h:t=s
    ·subst h; simp
    ·have:Nat.beq s t=false:=aQ6 (Ne.symm h)
     simp [h,this]
theorem dc2 {U:ad6}:∀ (ws:List (Nat × AV U.τ)) (st:St U),(st.puts ws).get=ad1 st.get ws
 | [],_=>rfl
 | (s,v)::r,st=>by
  rw [St.puts,dc2 r,ds9]; rfl
section
variable {P:Program} {U:ad6}
inductive PC (P:Program) (U:ad6) (w:World) (I:Nat→Nat→Prop):CV U.τ→Value→Prop
 | any (v:Value):one1 v→PC P U w I .any v
 | bool (b:Bool):PC P U w I (.bool b) (.bool b)
 | int (k:IntKind) (n:Int):k.has n→PC P U w I (.int k n) (.int k n)
 | str (s:List UInt8):(s.length:Int)≤ad0→PC P U w I (.str s) (.string ⟨⟨s⟩⟩)
 | fn (f:Nat):PC P U w I (.fn f) (.func (.func f) #[] #[])
 | nil (c:CV U.τ) (e:Nat) (f:Fl):cont c=some (e,[],f)→f≠.app→PC P U w I c (.slice none 0 0)
 | emp (c:CV U.τ) (e:Nat) (p:Addr) (cap:Nat):cont c=some (e,[],.ro)→PC P U w I c (.slice (some p) 0 cap)
 | row (c:CV U.τ) (e:Nat) (css:List (List (CV U.τ))) (f:Fl) (b off cap:Nat):cont c=some (e,css,f)→f≠.app→css.length≤cap→(f=.tight→cap=css.length)→(css.length:Int)≤ad0→
   (∀ (i:Nat) (cs:List (CV U.τ)),css[i]?=some cs→cs.length=P.cellsOf e)→
   (∀ (i:Nat) (cs:List (CV U.τ)) (j:Nat) (x:CV U.τ),css[i]?=some cs→cs[j]?=some x→I b (off+i * P.cellsOf e+j))→
   (∀ (i:Nat) (cs:List (CV U.τ)) (j:Nat) (x:CV U.τ),css[i]?=some cs→cs[j]?=some x→(w.cell? ⟨b,off+i * P.cellsOf e+j,none⟩).isSome=true)→
   (∀ (i:Nat) (cs:List (CV U.τ)) (j:Nat) (x:CV U.τ),css[i]?=some cs→cs[j]?=some x→PC P U w I x ((w.cell? ⟨b,off+i * P.cellsOf e+j,none⟩).getD undef))→
   PC P U w I c (.slice (some ⟨b,off,none⟩) css.length cap)
theorem PC.one1 {w:World} {I:Nat→Nat→Prop} {c:CV U.τ} {v:Value} (h:PC P U w I c v):one1 v:=by
 cases h <;> first | assumption | trivial
theorem PC.mono {w w':World} {I I':Nat→Nat→Prop} {c:CV U.τ} {v:Value} (h:PC P U w I c v)
  (hI:∀ b o,I b o→I' b o∧w'.cell? ⟨b,o,none⟩=w.cell? ⟨b,o,none⟩):PC P U w' I' c v:=by
 induction h with
 | any v h=>exact .any v h
 | bool b=>exact .bool b
 | int k n h=>exact .int k n h
 | str s h=>exact .str s h
 | fn f=>exact .fn f
 | nil c e f h1 h2=>exact .nil c e f h1 h2
 | emp c e p cap h=>exact .emp c e p cap h
 | row c e css f b off cap h1 h2 h3 h4 h5 h6 h7 h8 h9 ih=>
  refine .row c e css f b off cap h1 h2 h3 h4 h5 h6 (fun i cs j x a b=>(hI _ _ (h7 i cs j x a b)).1) (fun i cs j x a b=>?_) (fun i cs j x a b=>?_)
  ·rw [(hI _ _ (h7 i cs j x a b)).2]; exact h8 i cs j x a b
  ·rw [(hI _ _ (h7 i cs j x a b)).2]; exact ih i cs j x a b
structure bh0 (P:Program) (U:ad6) (w:World) (I:Nat→Nat→Prop) (b off sz:Nat) (css:List (List (CV U.τ))):Prop where
 len:∀ (i:Nat) (cs:List (CV U.τ)),css[i]?=some cs→cs.length=sz
 imm:∀ (i:Nat) (cs:List (CV U.τ)) (j:Nat) (x:CV U.τ),css[i]?=some cs→cs[j]?=some x→I b (off+i * sz+j)
 cell:∀ (i:Nat) (cs:List (CV U.τ)) (j:Nat) (x:CV U.τ),css[i]?=some cs→cs[j]?=some x→∃ u,w.cell? ⟨b,off+i * sz+j,none⟩=some u∧PC P U w I x u
theorem bh0.mono {w w':World} {I I':Nat→Nat→Prop} {b off sz:Nat} {css:List (List (CV U.τ))} (h:bh0 P U w I b off sz css)
  (hI:∀ b o,I b o→I' b o∧w'.cell? ⟨b,o,none⟩=w.cell? ⟨b,o,none⟩):bh0 P U w' I' b off sz css:=
 ⟨h.len,fun i cs j x a c=>(hI _ _ (h.imm i cs j x a c)).1,fun i cs j x a c=>by
  obtain ⟨u,h1,h2⟩:=h.cell i cs j x a c
  exact ⟨u,by rw [(hI _ _ (h.imm i cs j x a c)).2]; exact h1,h2.mono hI⟩⟩
theorem PC.of_cont {w:World} {I:Nat→Nat→Prop} {c:CV U.τ} {e:Nat} {css:List (List (CV U.τ))} {f:Fl} {b off cap:Nat} (hc:cont c=some (e,css,f)) (hf:f≠.app) (hl:css.length≤cap) (ht:f=.tight→cap=css.length)
  (hm:(css.length:Int)≤ad0) (h:bh0 P U w I b off (P.cellsOf e) css):PC P U w I c (.slice (some ⟨b,off,none⟩) css.length cap):=
 .row c e css f b off cap hc hf hl ht hm h.len h.imm (fun i cs j x a d=>by obtain ⟨u,h1,_⟩:=h.cell i cs j x a d; simp [h1])
  (fun i cs j x a d=>by obtain ⟨u,h1,h2⟩:=h.cell i cs j x a d; simp only [h1,Option.getD_some]; exact h2)
theorem PC.slice {w:World} {I:Nat→Nat→Prop} {c:CV U.τ} {e:Nat} {css:List (List (CV U.τ))} {f:Fl} {v:Value} (h:PC P U w I c v) (hc:cont c=some (e,css,f)) :
  f≠.app∧(css.length:Int)≤ad0∧((css=[]∧v=.slice none 0 0)∨(f=.ro∧css=[]∧∃ p cap,v=.slice (some p) 0 cap)∨∃ b off cap,v=.slice (some ⟨b,off,none⟩) css.length cap∧css.length≤cap∧(f=.tight→cap=css.length)∧bh0 P U w I b off (P.cellsOf e) css):=by
 cases h with
 | emp c e' p cap h1=>
  rw [hc] at h1
  simp only [Option.some.injEq,Prod.mk.injEq] at h1
  obtain ⟨rfl,rfl,rfl⟩:=h1
  exact ⟨by simp,by simp [ad0],.inr (.inl ⟨rfl,rfl,p,cap,rfl⟩)⟩
 | nil c e' f' h1 h2=>
  rw [hc] at h1
  simp only [Option.some.injEq,Prod.mk.injEq] at h1
  obtain ⟨rfl,rfl,rfl⟩:=h1
  exact ⟨h2,by simp [ad0],.inl ⟨rfl,rfl⟩⟩
 | row c e' css' f' b off cap h1 h2 h3 h4 h5 h6 h7 h8 h9=>
  rw [hc] at h1
  simp only [Option.some.injEq,Prod.mk.injEq] at h1
  obtain ⟨rfl,rfl,rfl⟩:=h1
  refine ⟨h2,h5,.inr (.inr ⟨b,off,cap,rfl,h3,h4,h6,h7,fun i cs j x a d=>?_⟩)⟩
  obtain ⟨u,hu⟩:=Option.isSome_iff_exists.1 (h8 i cs j x a d)
  have:=h9 i cs j x a d
  rw [hu] at this
  exact ⟨u,hu,this⟩
 | any v h=>simp [cont] at hc
 | bool b=>simp [cont] at hc
 | int k n h=>simp [cont] at hc
 | str s h=>simp [cont] at hc
 | fn f=>simp [cont] at hc
def eh0 (w:World) (I:Nat→Nat→Prop) (b lo hi:Nat):Prop:=
 ∃ c T fz,w.heap[b]?=some (.cells c T fz)∧hi≤c.size∧(∀ o,fz.1≤o→o < fz.2→c.size≤o)∧(∀ o,lo≤o→o < hi→¬I b o)
def aU3 (P:Program) (U:ad6) (w:World) (I:Nat→Nat→Prop) (who:Nat→Option (Nat × Option Nat)) (L:Nat × Option Nat) (c:CV U.τ) (v:Value):Prop:=
 ∃ e css,cont c=some (e,css,.app)∧(css.length:Int)≤ad0∧((css=[]∧v=.slice none 0 0)∨
  ∃ b off cap,v=.slice (some ⟨b,off,none⟩) css.length cap∧css.length≤cap∧bh0 P U w I b off (P.cellsOf e) css∧
   (cap=css.length∨(who b=some L∧eh0 w I b (off+css.length * P.cellsOf e) (off+cap * P.cellsOf e))))
def ae3 (P:Program) (U:ad6) (w:World) (I:Nat→Nat→Prop) (who:Nat→Option (Nat × Option Nat)) (L:Nat × Option Nat) (c:CV U.τ) (v:Value):Prop:=
 PC P U w I c v∨aU3 P U w I who L c v
theorem ae3.one1 {w:World} {I:Nat→Nat→Prop} {who:Nat→Option (Nat × Option Nat)} {L:Nat × Option Nat} {c:CV U.τ} {v:Value} (h:ae3 P U w I who L c v):one1 v:=by
 rcases h with h | ⟨e,css,_,_,⟨_,rfl⟩ | ⟨b,off,cap,rfl,_⟩⟩
 ·exact h.one1
 ·trivial
 ·trivial
def ak5 (P:Program) (U:ad6) (w:World) (I:Nat→Nat→Prop):Bool→List (CV U.τ)→Value→Prop
 | true,cs,u=>∃ us,u=.agg us∧us.size=cs.length∧∀ (j:Nat) c,cs[j]?=some c→∃ x,us[j]?=some x∧PC P U w I c x
 | false,cs,u=>∃ c,cs=[c]∧PC P U w I c u
theorem ak5.mono {w w':World} {I I':Nat→Nat→Prop} {a:Bool} {cs:List (CV U.τ)} {u:Value} (h:ak5 P U w I a cs u)
  (hI:∀ b o,I b o→I' b o∧w'.cell? ⟨b,o,none⟩=w.cell? ⟨b,o,none⟩):ak5 P U w' I' a cs u:=by
 cases a with
 | true=>
  obtain ⟨us,h1,h2,h3⟩:=h
  exact ⟨us,h1,h2,fun j c hc=>let ⟨x,a,b⟩:=h3 j c hc; ⟨x,a,b.mono hI⟩⟩
 | false=>
  obtain ⟨c,h1,h2⟩:=h
  exact ⟨c,h1,h2.mono hI⟩
structure as1 (P:Program) (U:ad6) (w:World) (I:Nat→Nat→Prop) (who:Nat→Option (Nat × Option Nat)) (s:Nat) (p:Nat × Nat) (cs:List (CV U.τ)):Prop where
 hwho:who p.1=some (s,none)
 himm:∀ o,¬I p.1 o
 row:∃ c T fz,w.heap[p.1]?=some (.cells c T fz)∧p.2+cs.length≤c.size∧(∀ o,fz.1≤o→o < fz.2→c.size≤o)∧
  ∀ (i:Nat) x,cs[i]?=some x→∃ u,c[p.2+i]?=some u∧ae3 P U w I who (s,some i) x u
structure dh5 (P:Program) (w:World) (I:Nat→Nat→Prop) (who:Nat→Option (Nat × Option Nat)) (s:Nat) (p:Nat × Nat) (e:Nat) (x:List UInt8):Prop where
 hwho:who p.1=some (s,none)
 himm:∀ o,¬I p.1 o
 sz:P.cellsOf e=1
 len:(x.length:Int)≤ad0
 row:∃ c T fz,w.heap[p.1]?=some (.cells c T fz)∧p.2+x.length≤c.size∧(∀ o,fz.1≤o→o < fz.2→c.size≤o)∧
  ∀ (i:Nat) (b:UInt8),x[i]?=some b→c[p.2+i]?=some (.int .u8 b.toNat)
def ac9 (P:Program) (U:ad6) (G:ab7) (σ:ac0 U) (w:World) (t:Nat) (v:AV U.τ) (u:Value):Prop:=
 match v with
 | .undef=>True
 | .one .any=>True
 | .one (.ref s off)=>(∃ cs,σ s=.box cs)∧u=.pointer (some ⟨(G.loc s).1,(G.loc s).2+off,none⟩)
 | .one (.sref s)=>∃ e x q cap,σ s=.bblk e x q∧u=.slice (some ⟨(G.loc s).1,(G.loc s).2,none⟩) x.length cap∧x.length≤cap∧(q=true→cap=x.length)
 | .one (.eref s i)=>(∃ e x q,σ s=.bblk e x q)∧u=.pointer (some ⟨(G.loc s).1,(G.loc s).2+i,none⟩)
 | .one (.prow s os)=>(∃ cs,σ s=.box cs)∧(os.length:Int)≤ad0∧∃ b off,u=.slice (some ⟨b,off,none⟩) os.length os.length∧∀ (j q:Nat),os[j]?=some q→G.I b (off+j)∧w.cell? ⟨b,off+j,none⟩=some (.pointer (some ⟨(G.loc s).1,(G.loc s).2+q,none⟩))
 | .one (.pcell s q)=>(∃ cs,σ s=.box cs)∧∃ b off,u=.pointer (some ⟨b,off,none⟩)∧G.I b off∧w.cell? ⟨b,off,none⟩=some (.pointer (some ⟨(G.loc s).1,(G.loc s).2+q,none⟩))
 | .one (.aref s off m i)=>(∃ cs,σ s=.box cs)∧(0≤i∧i < m)∧u=.pointer (some ⟨(G.loc s).1,(G.loc s).2+(off+i.toNat),none⟩)
 | .one c=>ae3 P U w G.I G.who (t,none) c u
 | .agg cs=>ak5 P U w G.I true cs u
 | .tup vs=>∃ us,u=.tuple us∧us.size=vs.length∧∀ (j:Nat) a cs,vs[j]?=some (a,cs)→∃ x,us[j]?=some x∧ak5 P U w G.I a cs x
 | .box cs=>(t < aa9→u=.pointer (some ⟨(G.loc t).1,(G.loc t).2,none⟩))∧as1 P U w G.I G.who t (G.loc t) cs
 | .bblk e x q=>(t < aa9→∃ cap,u=.slice (some ⟨(G.loc t).1,(G.loc t).2,none⟩) x.length cap∧x.length≤cap∧(q=true→cap=x.length))∧dh5 P w G.I G.who t (G.loc t) e x
 | .im cs=>∃ b off,u=.pointer (some ⟨b,off,none⟩)∧∀ (j:Nat) c,cs[j]?=some c→G.I b (off+j)∧∃ x,w.cell? ⟨b,off+j,none⟩=some x∧PC P U w G.I c x
structure aF1 (G:ab7) (w:World) (G':ab7) (w':World):Prop where
 os:w'.os=w.os
 tape:w'.tape=w.tape
 output:w'.output=w.output
 size:w.heap.size≤w'.heap.size
 old:∀ b,b < w.heap.size→G.who b=none→w'.heap[b]?=w.heap[b]?
 imm:∀ b o,G.I b o→G'.I b o∧w'.cell? ⟨b,o,none⟩=w.cell? ⟨b,o,none⟩
 newI:∀ b o,G'.I b o→G.I b o∨w.heap.size≤b∨(G.who b).isSome=true
 newW:∀ b L,G'.who b=some L→w.heap.size≤b∨(G.who b).isSome=true
theorem aF1.refl (G:ab7) (w:World):aF1 G w G w:=
 ⟨rfl,rfl,rfl,Nat.le_refl _,fun _ _ _=>rfl,fun _ _ h=>⟨h,rfl⟩,fun _ _ h=>.inl h,fun _ _ h=>.inr (by simp [h])⟩
theorem aF1.trans {G G' G'':ab7} {w w' w'':World} (h:aF1 G w G' w') (k:aF1 G' w' G'' w''):aF1 G w G'' w'' where
 os:=k.os.trans h.os
 tape:=k.tape.trans h.tape
 output:=k.output.trans h.output
 size:=Nat.le_trans h.size k.size
 old b hb hw:=by
  have h1:G'.who b=none:=by
   cases hx:G'.who b with
   | none=>rfl
   | some L=>
    rcases h.newW b L hx with h2 | h2
    ·omega
    ·rw [hw] at h2; cases h2
  rw [k.old b (Nat.lt_of_lt_of_le hb h.size) h1,h.old b hb hw]
 imm b o hi:=⟨(k.imm b o (h.imm b o hi).1).1,((k.imm b o (h.imm b o hi).1).2).trans (h.imm b o hi).2⟩
 newI b o hi:=by
  rcases k.newI b o hi with h1 | h1 | h1
  ·exact h.newI b o h1
  ·exact .inr (.inl (Nat.le_trans h.size h1))
  ·obtain ⟨L,hL⟩:=Option.isSome_iff_exists.1 h1
   exact .inr (h.newW b L hL)
 newW b L hL:=by
  rcases k.newW b L hL with h1 | h1
  ·exact .inl (Nat.le_trans h.size h1)
  ·obtain ⟨L',hL'⟩:=Option.isSome_iff_exists.1 h1
   exact h.newW b L' hL'
structure cq7 (U:ad6) (G:ab7) (w:World):Prop where
 env:U.env w
 size:U.nb≤w.heap.size
 who:∀ b,b < U.nb→G.who b=none
theorem cq7.step {G G':ab7} {w w':World} (h:cq7 U G w) (s:aF1 G w G' w'):cq7 U G' w' where
 env:=U.stable w w' (fun b hb=>s.old b (Nat.lt_of_lt_of_le hb h.size) (h.who b hb)) h.env
 size:=Nat.le_trans h.size s.size
 who b hb:=by
  cases hx:G'.who b with
  | none=>rfl
  | some L=>
   rcases s.newW b L hx with h2 | h2
   ·have:=h.size; omega
   ·rw [h.who b hb] at h2; cases h2
structure R (P:Program) (U:ad6) (N:Nat) (L0:Nat→Nat) (G0:ab7) (w0:World) (G:ab7) (σ:ac0 U) (a:Act) (w:World):Prop where
 defers:a.defers=[]
 size:N≤a.tmps.size
 small:N≤aa9
 slots:∀ t,ac9 P U G σ w t (σ t) (a.tmps.getD t undef)
 imm:∀ b o,G.I b o→(w.cell? ⟨b,o,none⟩).isSome=true
 who:∀ b L,G.who b=some L→b < w.heap.size
 step:aF1 G0 w0 G w
 loc:∀ t,aa9≤t→G.loc t=G0.loc t
 lens:∀ t cs,aa9≤t→σ t=.box cs→cs.length=L0 t
 rest:∀ t cs,aa9≤t→σ t=.box cs→∀ o,(o < (G.loc t).2∨(G.loc t).2+cs.length≤o)→w.cell? ⟨(G.loc t).1,o,none⟩=w0.cell? ⟨(G.loc t).1,o,none⟩
 env:cq7 U G0 w0
structure Ext (M:Nat × Option Nat→Prop) (G G':ab7) (σ σ':ac0 U) (w w':World):Prop where
 imm:∀ b o,G.I b o→G'.I b o∧w'.cell? ⟨b,o,none⟩=w.cell? ⟨b,o,none⟩
 own:∀ b L,G.who b=some L→¬M L→G'.who b=some L∧w'.heap[b]?=w.heap[b]?∧∀ o,G'.I b o→G.I b o
 loc:∀ s,(σ s).owner=true→G'.loc s=G.loc s
 box:∀ s cs,σ s=.box cs→∃ cs',σ' s=.box cs'
 blk:∀ s e x q,σ s=.bblk e x q→∃ e' x',σ' s=.bblk e' x' q∧x'.length=x.length
theorem ae3.mono {M:Nat × Option Nat→Prop} {G G':ab7} {σ σ':ac0 U} {w w':World} (x:Ext M G G' σ σ' w w') {L:Nat × Option Nat} (hL:¬M L) {c:CV U.τ} {v:Value}
  (h:ae3 P U w G.I G.who L c v):ae3 P U w' G'.I G'.who L c v:=by
 rcases h with h | ⟨e,css,h1,h2,h3⟩
 ·exact .inl (h.mono x.imm)
 ·refine .inr ⟨e,css,h1,h2,?_⟩
  rcases h3 with h3 | ⟨b,off,cap,h4,h5,h6,h7⟩
  ·exact .inl h3
  ·refine .inr ⟨b,off,cap,h4,h5,h6.mono x.imm,?_⟩
   rcases h7 with h7 | ⟨h7,c,T,fz,h8,h9,h10,h11⟩
   ·exact .inl h7
   ·obtain ⟨k1,k2,k3⟩:=x.own b L h7 hL
    exact .inr ⟨k1,c,T,fz,k2.trans h8,h9,h10,fun o ho hh hi=>h11 o ho hh (k3 o hi)⟩
theorem as1.mono {M:Nat × Option Nat→Prop} {G G':ab7} {σ σ':ac0 U} {w w':World} (x:Ext M G G' σ σ' w w') {s:Nat} (h0:¬M (s,none)) (hi:∀ i,¬M (s,some i)) {p:Nat × Nat} {cs:List (CV U.τ)}
  (h:as1 P U w G.I G.who s p cs):as1 P U w' G'.I G'.who s p cs:=by
 obtain ⟨k1,k2,k3⟩:=x.own p.1 (s,none) h.hwho h0
 obtain ⟨c,T,fz,h1,h2,h3,h4⟩:=h.row
 exact ⟨k1,fun o ho=>h.himm o (k3 o ho),c,T,fz,k2.trans h1,h2,h3,fun i y hy=>let ⟨u,a,b⟩:=h4 i y hy; ⟨u,a,b.mono x (hi i)⟩⟩
theorem dh5.mono {M:Nat × Option Nat→Prop} {G G':ab7} {σ σ':ac0 U} {w w':World} (x:Ext M G G' σ σ' w w') {s:Nat} (h0:¬M (s,none)) {p:Nat × Nat} {e:Nat} {y:List UInt8}
  (h:dh5 P w G.I G.who s p e y):dh5 P w' G'.I G'.who s p e y:=by
 obtain ⟨k1,k2,k3⟩:=x.own p.1 (s,none) h.hwho h0
 obtain ⟨c,T,fz,h1,h2,h3,h4⟩:=h.row
 exact ⟨k1,fun o ho=>h.himm o (k3 o ho),h.sz,h.len,c,T,fz,k2.trans h1,h2,h3,h4⟩
theorem ac9.mono {M:Nat × Option Nat→Prop} {G G':ab7} {σ σ':ac0 U} {w w':World} (x:Ext M G G' σ σ' w w') {t:Nat} (h0:¬M (t,none)) (hi:∀ i,¬M (t,some i)) {v:AV U.τ} {u:Value} (hv:v.owner=true→σ t=v)
  (h:ac9 P U G σ w t v u):ac9 P U G' σ' w' t v u:=by
 have I:=x.imm
 cases v with
 | undef=>trivial
 | one c=>
  cases c with
  | any=>trivial
  | ref s off=>
   obtain ⟨⟨cs,h1⟩,h2⟩:=h
   refine ⟨x.box s cs h1,?_⟩
   rw [x.loc s (by rw [h1]; rfl)]; exact h2
  | sref s=>
   obtain ⟨e,y,q,cap,h1,h2,h3,h4⟩:=h
   obtain ⟨e',y',k1,k2⟩:=x.blk s e y q h1
   refine ⟨e',y',q,cap,k1,?_,by omega,fun hq=>by rw [k2]; exact h4 hq⟩
   rw [x.loc s (by rw [h1]; rfl),k2]; exact h2
  | eref s i=>
   obtain ⟨⟨e,y,q,h1⟩,h2⟩:=h
   obtain ⟨e',y',k1,k2⟩:=x.blk s e y q h1
   refine ⟨⟨e',y',q,k1⟩,?_⟩
   rw [x.loc s (by rw [h1]; rfl)]; exact h2
  | prow s os=>
   obtain ⟨⟨cs,h1⟩,h2,b,off,h3,h4⟩:=h
   refine ⟨x.box s cs h1,h2,b,off,h3,fun j q hj=>?_⟩
   obtain ⟨k1,k2⟩:=h4 j q hj
   refine ⟨(I _ _ k1).1,?_⟩
   rw [x.loc s (by rw [h1]; rfl),(I _ _ k1).2]; exact k2
  | pcell s q=>
   obtain ⟨⟨cs,h1⟩,b,off,h3,k1,k2⟩:=h
   refine ⟨x.box s cs h1,b,off,h3,(I _ _ k1).1,?_⟩
   rw [x.loc s (by rw [h1]; rfl),(I _ _ k1).2]; exact k2
  | aref s off m i=>
   obtain ⟨⟨cs,h1⟩,hi,h2⟩:=h
   refine ⟨x.box s cs h1,hi,?_⟩
   rw [x.loc s (by rw [h1]; rfl)]; exact h2
  | bool b=>exact ae3.mono x h0 h
  | int k n=>exact ae3.mono x h0 h
  | str s=>exact ae3.mono x h0 h
  | fn f=>exact ae3.mono x h0 h
  | sl e xs f=>exact ae3.mono x h0 h
  | bs e s f=>exact ae3.mono x h0 h
 | agg cs=>exact ak5.mono (a:=true) h I
 | tup vs=>
  obtain ⟨us,h1,h2,h3⟩:=h
  exact ⟨us,h1,h2,fun j a cs hj=>let ⟨y,p,q⟩:=h3 j a cs hj; ⟨y,p,q.mono I⟩⟩
 | box cs=>
  obtain ⟨h1,h2⟩:=h
  have hl:=x.loc t (by rw [hv rfl]; rfl)
  refine ⟨fun ht=>by rw [hl]; exact h1 ht,?_⟩
  rw [hl]
  exact h2.mono x h0 hi
 | bblk e y q=>
  obtain ⟨h1,h2⟩:=h
  have hl:=x.loc t (by rw [hv rfl]; rfl)
  refine ⟨fun ht=>by rw [hl]; exact h1 ht,?_⟩
  rw [hl]
  exact h2.mono x h0
 | im cs=>
  obtain ⟨b,off,h1,h2⟩:=h
  exact ⟨b,off,h1,fun j c hc=>let ⟨a1,y,a2,a3⟩:=h2 j c hc; ⟨(I _ _ a1).1,y,by rw [(I _ _ a1).2]; exact a2,a3.mono I⟩⟩
theorem R.go {N:Nat} {L0:Nat→Nat} {G0:ab7} {w0:World} {G:ab7} {σ:ac0 U} {a:Act} {w:World} (r:R P U N L0 G0 w0 G σ a w) {M:Nat × Option Nat→Prop} {G':ab7} {σ':ac0 U} {a':Act} {w':World}
  (x:Ext M G G' σ σ' w w') (s:aF1 G w G' w') (hd:a'.defers=a.defers) (hs:a'.tmps.size=a.tmps.size)
  (hloc:∀ t,aa9≤t→G'.loc t=G.loc t)
  (him:∀ b o,G'.I b o→G.I b o∨(w'.cell? ⟨b,o,none⟩).isSome=true)
  (hwho:∀ b L,G'.who b=some L→(∃ L',G.who b=some L')∨b < w'.heap.size)
  (hrest:∀ t cs',aa9≤t→σ' t=.box cs'→∃ cs,σ t=.box cs∧cs'.length=cs.length∧∀ o,(o < (G.loc t).2∨(G.loc t).2+cs.length≤o)→w'.cell? ⟨(G.loc t).1,o,none⟩=w.cell? ⟨(G.loc t).1,o,none⟩)
  (h:∀ t,(σ' t=σ t∧a'.tmps.getD t undef=a.tmps.getD t undef∧¬M (t,none)∧∀ i,¬M (t,some i))∨ac9 P U G' σ' w' t (σ' t) (a'.tmps.getD t undef)) :
  R P U N L0 G0 w0 G' σ' a' w' where
 defers:=hd.trans r.defers
 size:=by rw [hs]; exact r.size
 small:=r.small
 slots t:=by
  rcases h t with ⟨h1,h2,h3,h4⟩ | h1
  ·rw [h1,h2]
   exact (r.slots t).mono x h3 h4 (fun _=>rfl)
  ·exact h1
 imm b o hi:=by
  rcases him b o hi with h1 | h1
  ·rw [(x.imm b o h1).2]; exact r.imm b o h1
  ·exact h1
 who b L hL:=by
  rcases hwho b L hL with ⟨L',h1⟩ | h1
  ·exact Nat.lt_of_lt_of_le (r.who b L' h1) s.size
  ·exact h1
 env:=r.env
 step:=r.step.trans s
 loc t ht:=(hloc t ht).trans (r.loc t ht)
 lens t cs' ht hσ:=by
  obtain ⟨cs,h1,h2,h3⟩:=hrest t cs' ht hσ
  rw [h2]; exact r.lens t cs ht h1
 rest t cs' ht hσ o ho:=by
  obtain ⟨cs,h1,h2,h3⟩:=hrest t cs' ht hσ
  rw [hloc t ht] at ho ⊢
  rw [h3 o (by rw [← h2]; exact ho)]
  exact r.rest t cs ht h1 o (by rw [← h2]; exact ho)
end
end Go.VI
namespace Go.VI
open Go
section
variable (P:Program) (U:ad6)
inductive ag6 (w:World) (I:Nat→Nat→Prop) (who:Nat→Option (Nat × Option Nat)) (loc:Nat→Nat × Nat):List (Arg U.τ)→List Value→Nat→Prop
 | nil (j:Nat):ag6 w I who loc [] [] j
 | val (a:Bool) (cs:List (CV U.τ)) (u:Value) (as:List (Arg U.τ)) (us:List Value) (j:Nat):ak5 P U w I a cs u→ag6 w I who loc as us j→ag6 w I who loc (.val a cs::as) (u::us) j
 | ptr (cs:List (CV U.τ)) (as:List (Arg U.τ)) (us:List Value) (j:Nat):as1 P U w I who (aa9+j) (loc (aa9+j)) cs→ag6 w I who loc as us (j+1)→
   ag6 w I who loc (.ptr cs::as) (.pointer (some ⟨(loc (aa9+j)).1,(loc (aa9+j)).2,none⟩)::us) j
def af8 {τ:Nat→Type}:List (Arg τ)→List (List (CV τ))
 | []=>[]
 | .ptr cs::r=>cs::af8 r
 | _::r=>af8 r
def ay5 (w:World) (I:Nat→Nat→Prop) (v:AV U.τ) (u:Value):Prop:=
 match v with
 | .one c=>PC P U w I c u
 | .agg cs=>ak5 P U w I true cs u
 | .tup vs=>∃ us,u=.tuple us∧us.size=vs.length∧∀ (j:Nat) a cs,vs[j]?=some (a,cs)→∃ x,us[j]?=some x∧ak5 P U w I a cs x
 | _=>False
def au8 (f:Nat) (as:List (Arg U.τ)) (out:Out U.τ):Prop:=
 (∀ (vs:Array Value) (w:World),(callFunc f vs).run P w=.ok (.enter f vs) w)∧
 ∀ (G0:ab7) (w:World) (vs:List Value),ag6 P U w G0.I G0.who G0.loc as vs 0→(∀ b o,G0.I b o→(w.cell? ⟨b,o,none⟩).isSome=true)→(∀ b L,G0.who b=some L→b < w.heap.size)→cq7 U G0 w→
  Calls P f vs.toArray w fun e w'=>∃ u G',e=.returned u∧aF1 G0 w G' w'∧ay5 P U w' G'.I out.ret u∧
   out.boxes.length=(af8 as).length∧
   (∀ (j:Nat) cs,out.boxes[j]?=some cs→as1 P U w' G'.I G'.who (aa9+j) (G0.loc (aa9+j)) cs)∧
   (∀ (j:Nat) cs,(af8 as)[j]?=some cs→(∃ l,out.boxes[j]?=some l∧l.length=cs.length)∧∀ o,(o < (G0.loc (aa9+j)).2∨(G0.loc (aa9+j)).2+cs.length≤o)→w'.cell? ⟨(G0.loc (aa9+j)).1,o,none⟩=w.cell? ⟨(G0.loc (aa9+j)).1,o,none⟩)∧
   (∀ b o,G'.I b o→(w'.cell? ⟨b,o,none⟩).isSome=true)∧(∀ b L,G'.who b=some L→b < w'.heap.size)
def at9 (Φ:Tab U):Prop:=∀ (R:Type) f as k (r:R),Φ R f as k=some r→∃ out,au8 P U f as out∧k out=some r
inductive aa5 (σ:ac0 U):ac6 U→List Nat→List (Nat × AV U.τ)→Prop
 | done (ws:List (Nat × AV U.τ)):aa5 σ (.done ws) [] ws
 | read (s:Nat) (f:AV U.τ→ac6 U) (rd:List Nat) (ws:List (Nat × AV U.τ)):aa5 σ (f (σ s)) rd ws→aa5 σ (.read s f) (s::rd) ws
 | split (s:Nat) (f:Bool→ac6 U) (b:Bool) (rd:List Nat) (ws:List (Nat × AV U.τ)):σ s=.one (.bool b)→aa5 σ (f b) rd ws→aa5 σ (.split s f) (s::rd) ws
 | iteT (p:Prop) (d:Decidable p) (a b:ac6 U) (rd:List Nat) (ws:List (Nat × AV U.τ)):p→aa5 σ a rd ws→aa5 σ (.ite p d a b) rd ws
 | iteF (p:Prop) (d:Decidable p) (a b:ac6 U) (rd:List Nat) (ws:List (Nat × AV U.τ)):¬p→aa5 σ b rd ws→aa5 σ (.ite p d a b) rd ws
 | opt {α:Type} (x:α) (f:α→ac6 U) (rd:List Nat) (ws:List (Nat × AV U.τ)):aa5 σ (f x) rd ws→aa5 σ (.opt (some x) f) rd ws
 | call (f:Nat) (as:List (Arg U.τ)) (g:Out U.τ→ac6 U) (out:Out U.τ) (rd:List Nat) (ws:List (Nat × AV U.τ)):au8 P U f as out→aa5 σ (g out) rd ws→aa5 σ (.call f as g) rd ws
end
section
variable {P:Program} {U:ad6}
theorem aa5.same {σ σ':ac0 U} {t:ac6 U} {rd:List Nat} {ws:List (Nat × AV U.τ)} (h:aa5 P U σ t rd ws) (hs:∀ s∈rd,σ' s=σ s):aa5 P U σ' t rd ws:=by
 induction h with
 | done ws=>exact .done ws
 | read s f rd ws h ih=>
  refine .read s f rd ws ?_
  rw [hs s (List.mem_cons_self ..)]
  exact ih fun x hx=>hs x (List.mem_cons_of_mem _ hx)
 | split s f b rd ws h1 h ih=>exact .split s f b rd ws (by rw [hs s (List.mem_cons_self ..)]; exact h1) (ih fun x hx=>hs x (List.mem_cons_of_mem _ hx))
 | iteT p d a b rd ws hp h ih=>exact .iteT p d a b rd ws hp (ih hs)
 | iteF p d a b rd ws hp h ih=>exact .iteF p d a b rd ws hp (ih hs)
 | opt x f rd ws h ih=>exact .opt x f rd ws (ih hs)
 | call f as g out rd ws hc h ih=>exact .call f as g out rd ws hc (ih hs)
theorem eK6 {Res:Type} {Φ:Tab U} (hΦ:at9 P U Φ):∀ (t:ac6 U) (st:St U) (log:List Nat) (k:St U→List Nat→List (Nat × AV U.τ)→Option Res) (out:Res),
  evT Φ t st log k=some out→∃ st' rd ws,st'.get=st.get∧aa5 P U st.get t rd ws∧k st' (rd.reverse++log) ws=some out:=by
 intro t
 induction t with
 | fail=>intro st log k out h; simp [evT] at h
 | done ws=>intro st log k out h; exact ⟨st,[],ws,rfl,.done ws,h⟩
 | read s f ih=>
  intro st log k out h
  obtain ⟨st',rd,ws,h1,h2,h3⟩:=ih _ _ _ _ _ h
  exact ⟨st',s::rd,ws,h1,.read s f rd ws h2,by simpa using h3⟩
 | split s f ih=>
  intro st log k out h
  simp only [evT] at h
  cases hs:st.get s with
  | one c=>
   cases c with
   | bool b=>
    rw [hs] at h
    have hg:∀ b',b=b'→(st.put s (.one (.bool b'))).get=st.get:=by
     intro b' hb; subst hb
     rw [ds9]; funext t
     by_cases ht:t=s
     ·subst ht; simp [upd,hs]
     ·simp [upd,ht]
    cases b with
    | true=>
     simp only [if_true] at h
     obtain ⟨st',rd,ws,h1,h2,h3⟩:=ih _ _ _ _ _ h
     rw [hg true rfl] at h1 h2
     exact ⟨st',s::rd,ws,h1,.split s f true rd ws hs h2,by simpa using h3⟩
    | false=>
     simp only [Bool.false_eq_true,if_false] at h
     obtain ⟨st',rd,ws,h1,h2,h3⟩:=ih _ _ _ _ _ h
     rw [hg false rfl] at h1 h2
     exact ⟨st',s::rd,ws,h1,.split s f false rd ws hs h2,by simpa using h3⟩
   | _=>rw [hs] at h; simp at h
  | _=>rw [hs] at h; simp at h
 | ite p d a b iha ihb=>
  intro st log k out h
  simp only [evT] at h
  by_cases hp:p
  ·rw [if_pos hp] at h
   obtain ⟨st',rd,ws,h1,h2,h3⟩:=iha _ _ _ _ h
   exact ⟨st',rd,ws,h1,.iteT p d a b rd ws hp h2,h3⟩
  ·rw [if_neg hp] at h
   obtain ⟨st',rd,ws,h1,h2,h3⟩:=ihb _ _ _ _ h
   exact ⟨st',rd,ws,h1,.iteF p d a b rd ws hp h2,h3⟩
 | opt o f ih=>
  intro st log k out h
  simp only [evT] at h
  cases o with
  | none=>simp at h
  | some x=>
   obtain ⟨st',rd,ws,h1,h2,h3⟩:=ih _ _ _ _ _ h
   exact ⟨st',rd,ws,h1,.opt x f rd ws h2,h3⟩
 | call f as g ih=>
  intro st log k out h
  simp only [evT] at h
  obtain ⟨o,ho,hk⟩:=hΦ _ _ _ _ _ h
  obtain ⟨st',rd,ws,h1,h2,h3⟩:=ih _ _ _ _ _ hk
  exact ⟨st',rd,ws,h1,.call f as g o rd ws ho h2,h3⟩
theorem aa5.of_fail {σ:ac0 U} {rd:List Nat} {ws:List (Nat × AV U.τ)} (h:aa5 P U σ .fail rd ws):False:=by cases h
theorem aa5.of_done {σ:ac0 U} {rd:List Nat} {ws vs:List (Nat × AV U.τ)} (h:aa5 P U σ (.done vs) rd ws):ws=vs:=by cases h; rfl
theorem aa5.of_read {σ:ac0 U} {s:Nat} {f:AV U.τ→ac6 U} {rd:List Nat} {ws:List (Nat × AV U.τ)} (h:aa5 P U σ (.read s f) rd ws):∃ rd',aa5 P U σ (f (σ s)) rd' ws:=by
 cases h with | read _ _ rd' _ h=>exact ⟨rd',h⟩
theorem aa5.of_split {σ:ac0 U} {s:Nat} {f:Bool→ac6 U} {rd:List Nat} {ws:List (Nat × AV U.τ)} (h:aa5 P U σ (.split s f) rd ws):∃ b rd',σ s=.one (.bool b)∧aa5 P U σ (f b) rd' ws:=by
 cases h with | split _ _ b rd' _ h1 h=>exact ⟨b,rd',h1,h⟩
theorem aa5.of_guard {σ:ac0 U} {p:Prop} {d:Decidable p} {t:ac6 U} {rd:List Nat} {ws:List (Nat × AV U.τ)} (h:aa5 P U σ (@ac6.guard U p d t) rd ws):p∧aa5 P U σ t rd ws:=by
 cases h with
 | iteT _ _ _ _ _ _ hp h=>exact ⟨hp,h⟩
 | iteF _ _ _ _ _ _ hp h=>exact h.of_fail.elim
theorem aa5.of_ite {σ:ac0 U} {p:Prop} {d:Decidable p} {t u:ac6 U} {rd:List Nat} {ws:List (Nat × AV U.τ)} (h:aa5 P U σ (.ite p d t u) rd ws):(p∧aa5 P U σ t rd ws)∨(¬p∧aa5 P U σ u rd ws):=by
 cases h with
 | iteT _ _ _ _ _ _ hp h=>exact .inl ⟨hp,h⟩
 | iteF _ _ _ _ _ _ hp h=>exact .inr ⟨hp,h⟩
theorem aa5.of_opt {σ:ac0 U} {α:Type} {o:Option α} {f:α→ac6 U} {rd:List Nat} {ws:List (Nat × AV U.τ)} (h:aa5 P U σ (.opt o f) rd ws):∃ x,o=some x∧aa5 P U σ (f x) rd ws:=by
 cases h with | opt x _ _ _ h=>exact ⟨x,rfl,h⟩
theorem aa5.of_call {σ:ac0 U} {f:Nat} {as:List (Arg U.τ)} {g:Out U.τ→ac6 U} {rd:List Nat} {ws:List (Nat × AV U.τ)} (h:aa5 P U σ (.call f as g) rd ws):∃ out,au8 P U f as out∧aa5 P U σ (g out) rd ws:=by
 cases h with | call _ _ _ out _ _ h1 h=>exact ⟨out,h1,h⟩
theorem aa5.of_cond {σ:ac0 U} {b:Bool} {t:ac6 U} {rd:List Nat} {ws:List (Nat × AV U.τ)} (h:aa5 P U σ (cond b t .fail) rd ws):b=true∧aa5 P U σ t rd ws:=by
 cases b with
 | true=>exact ⟨rfl,h⟩
 | false=>exact h.of_fail.elim
theorem aa5.of_cond' {σ:ac0 U} {b:Bool} {t:ac6 U} {rd:List Nat} {ws:List (Nat × AV U.τ)} (h:aa5 P U σ (cond b .fail t) rd ws):b=false∧aa5 P U σ t rd ws:=by
 cases b with
 | false=>exact ⟨rfl,h⟩
 | true=>exact h.of_fail.elim
structure Opd (G:ab7) (σ:ac0 U) (w:World) (x:Operand) (v:AV U.τ) (u:Value):Prop where
 own:v.owner=false
 ok:∃ t,ac9 P U G σ w t v u∧(av2 x=some t∧t < aa9∧v=av1 t (σ t)∨av2 x=none∧∀ t',ac9 P U G σ w t' v u)
theorem cq8 {w:World} {I:Nat→Nat→Prop} {ty:TypeId} {v:Value} (h:aU2 v=true):PC P U w I (bM5 P ty v) v:=by
 have h1:one1 v:=by cases v <;> first | trivial | (simp [aU2] at h)
 unfold bM5
 split
 ·exact .bool _
 ·rename_i k n
  cases hb:(decide (k.min≤n) && decide (n≤k.max)) with
  | true=>simp at hb; exact .int k n hb
  | false=>exact .any _ h1
 ·rename_i s
  cases hb:Nat.ble s.data.toList.length 9223372036854775807 with
  | true=>
   have:=Nat.le_of_ble_eq_true hb
   have hs:(Value.string s)=.string ⟨⟨s.data.toList⟩⟩:=rfl
   rw [hs]
   exact .str _ (by unfold ad0; omega)
  | false=>exact .any _ h1
 ·split
  ·split
   ·exact .nil _ _ .tight rfl (by simp)
   ·exact .nil _ _ .tight rfl (by simp)
  ·exact .any _ h1
 ·exact .any _ h1
theorem bx1 {w:World} {I:Nat→Nat→Prop}:∀ (vs:List Value) (ts:List TypeId),vs.all aU2=true→(aq9 (U:=U) P ts vs).length=vs.length∧∀ (j:Nat) c,(aq9 (U:=U) P ts vs)[j]?=some c→∃ v,vs[j]?=some v∧PC P U w I c v
 | [],ts,_=>by cases ts <;> exact ⟨rfl,fun j c h=>by simp [aq9] at h⟩
 | v::vs,ts,h=>by
  have hv:aU2 v=true:=by simp at h; exact h.1
  have hvs:vs.all aU2=true:=by simp at h ⊢; exact h.2
  cases ts with
  | nil=>
   obtain ⟨h1,h2⟩:=bx1 (w:=w) (I:=I) vs [] hvs
   refine ⟨by simp [aq9,h1],fun j c hj=>?_⟩
   cases j with
   | zero=>
    simp [aq9] at hj; subst hj
    exact ⟨v,rfl,.any v (by cases v <;> first | trivial | (simp [aU2] at hv))⟩
   | succ j=>simp [aq9] at hj; simpa using h2 j c hj
  | cons t ts=>
   obtain ⟨h1,h2⟩:=bx1 (w:=w) (I:=I) vs ts hvs
   refine ⟨by simp [aq9,h1],fun j c hj=>?_⟩
   cases j with
   | zero=>
    simp [aq9] at hj; subst hj
    exact ⟨v,rfl,cq8 hv⟩
   | succ j=>simp [aq9] at hj; simpa using h2 j c hj
theorem ac9.of_pc {G:ab7} {σ:ac0 U} {w:World} {t:Nat} {c:CV U.τ} {u:Value} (h:PC P U w G.I c u):ac9 P U G σ w t (.one c) u:=by
 cases c with
 | any=>trivial
 | ref s off=>cases h <;> simp [cont] at *
 | sref s=>cases h <;> simp [cont] at *
 | eref s i=>cases h <;> simp [cont] at *
 | prow s os=>cases h <;> simp [cont] at *
 | pcell s q=>cases h <;> simp [cont] at *
 | aref s q m i=>cases h <;> simp [cont] at *
 | bool b=>exact .inl h
 | int k n=>exact .inl h
 | str s=>exact .inl h
 | fn f=>exact .inl h
 | sl e xs f=>exact .inl h
 | bs e s f=>exact .inl h
variable {N:Nat} {L0:Nat→Nat} {G0:ab7} {w0:World} {G:ab7} {σ:ac0 U} {a:Act} {w:World}
theorem R.opd (r:R P U N L0 G0 w0 G σ a w) {ty:TypeId} {x:Operand} {k:AV U.τ→ac6 U} {rd:List Nat} {ws:List (Nat × AV U.τ)} (h:aa5 P U σ (rdO P ty x k) rd ws) :
  ∃ v rd',Opd (P:=P) G σ w x v (a.eval x)∧aa5 P U σ (k v) rd' ws:=by
 cases x with
 | tmp t=>
  obtain ⟨hb,h⟩:=aa5.of_cond' (b:=Nat.ble aa9 t) h
  obtain ⟨rd',h⟩:=h.of_read
  have ht:t < aa9:=by
   rcases Nat.lt_or_ge t aa9 with h1 | h1
   ·exact h1
   ·rw [Nat.ble_eq_true_of_le h1] at hb; cases hb
  refine ⟨_,rd',⟨?_,t,?_,.inl ⟨rfl,ht,rfl⟩⟩,h⟩
  ·cases hσ:σ t <;> rfl
  ·have hs:=r.slots t
   cases hσ:σ t with
   | box cs=>
    rw [hσ] at hs
    exact ⟨⟨cs,hσ⟩,hs.1 ht⟩
   | bblk e y q=>
    rw [hσ] at hs
    obtain ⟨cap,h1,h2,h3⟩:=hs.1 ht
    exact ⟨e,y,q,cap,hσ,h1,h2,h3⟩
   | _=>rw [hσ] at hs; exact hs
 | const v=>
  have one:∀ v:Value,(∀ cs,v≠.agg cs)→aa5 P U σ (k (.one (bM5 P ty v))) rd ws→∃ v' rd',Opd (P:=P) G σ w (.const v) v' (a.eval (.const v))∧aa5 P U σ (k v') rd' ws:=by
   intro v hv h
   refine ⟨_,rd,⟨rfl,0,?_,.inr ⟨rfl,fun t'=>?_⟩⟩,h⟩
   all_goals
    cases hb:aU2 v with
    | true=>exact ac9.of_pc (cq8 hb)
    | false=>
     cases v <;> first | (simp [aU2] at hb; done) | skip
     ·exact absurd rfl (hv _)
     ·trivial
  cases v with
  | agg cs=>
   obtain ⟨hb,h⟩:=aa5.of_cond h
   refine ⟨_,rd,⟨rfl,0,?_,.inr ⟨rfl,fun t'=>?_⟩⟩,h⟩
   all_goals
    obtain ⟨h1,h2⟩:=bx1 (P:=P) (U:=U) (w:=w) (I:=G.I) cs.toList (flat P 6 ty) hb
    refine ⟨cs,rfl,by rw [h1]; simp,fun j c hj=>?_⟩
    obtain ⟨v,a1,a2⟩:=h2 j c hj
    exact ⟨v,by simpa using a1,a2⟩
  | _=>exact one _ (fun cs hc=>by cases hc) h
 | global g=>exact h.of_fail.elim
 | func f=>exact ⟨_,rd,⟨rfl,0,ac9.of_pc (.fn f),.inr ⟨rfl,fun _=>ac9.of_pc (.fn f)⟩⟩,h⟩
theorem R.opd1 (r:R P U N L0 G0 w0 G σ a w) {ty:TypeId} {x:Operand} {k:CV U.τ→ac6 U} {rd:List Nat} {ws:List (Nat × AV U.τ)} (h:aa5 P U σ (rd1 P ty x k) rd ws) :
  ∃ c rd',Opd (P:=P) G σ w x (.one c) (a.eval x)∧aa5 P U σ (k c) rd' ws:=by
 obtain ⟨v,rd',h1,h2⟩:=r.opd h
 cases v with
 | one c=>exact ⟨c,rd',h1,h2⟩
 | _=>exact h2.of_fail.elim
theorem Opd.int {x:Operand} {k:IntKind} {n:Int} {u:Value} (h:Opd (P:=P) G σ w x (.one (.int k n)) u):u=.int k n∧k.has n:=by
 obtain ⟨t,h1,_⟩:=h.ok
 rcases h1 with h1 | ⟨e,css,h2,_⟩
 ·cases h1 with
  | int _ _ hh=>exact ⟨rfl,hh⟩
  | nil _ _ _ hc=>simp [cont] at hc
  | emp _ _ _ _ hc=>simp [cont] at hc
  | row _ _ _ _ _ _ _ hc=>simp [cont] at hc
 ·simp [cont] at h2
theorem Opd.bool {x:Operand} {b:Bool} {u:Value} (h:Opd (P:=P) G σ w x (.one (.bool b)) u):u=.bool b:=by
 obtain ⟨t,h1,_⟩:=h.ok
 rcases h1 with h1 | ⟨e,css,h2,_⟩
 ·cases h1 with
  | bool _=>rfl
  | nil _ _ _ hc=>simp [cont] at hc
  | emp _ _ _ _ hc=>simp [cont] at hc
  | row _ _ _ _ _ _ _ hc=>simp [cont] at hc
 ·simp [cont] at h2
theorem Opd.str {x:Operand} {s:List UInt8} {u:Value} (h:Opd (P:=P) G σ w x (.one (.str s)) u):u=.string ⟨⟨s⟩⟩∧(s.length:Int)≤ad0:=by
 obtain ⟨t,h1,_⟩:=h.ok
 rcases h1 with h1 | ⟨e,css,h2,_⟩
 ·cases h1 with
  | str _ hh=>exact ⟨rfl,hh⟩
  | nil _ _ _ hc=>simp [cont] at hc
  | emp _ _ _ _ hc=>simp [cont] at hc
  | row _ _ _ _ _ _ _ hc=>simp [cont] at hc
 ·simp [cont] at h2
theorem Opd.fn {x:Operand} {f:Nat} {u:Value} (h:Opd (P:=P) G σ w x (.one (.fn f)) u):u=.func (.func f) #[] #[]:=by
 obtain ⟨t,h1,_⟩:=h.ok
 rcases h1 with h1 | ⟨e,css,h2,_⟩
 ·cases h1 with
  | fn _=>rfl
  | nil _ _ _ hc=>simp [cont] at hc
  | emp _ _ _ _ hc=>simp [cont] at hc
  | row _ _ _ _ _ _ _ hc=>simp [cont] at hc
 ·simp [cont] at h2
theorem Opd.ref {x:Operand} {s off:Nat} {u:Value} (h:Opd (P:=P) G σ w x (.one (.ref s off)) u):(∃ cs,σ s=.box cs)∧u=.pointer (some ⟨(G.loc s).1,(G.loc s).2+off,none⟩):=by
 obtain ⟨t,h1,_⟩:=h.ok
 exact h1
theorem Opd.sref {x:Operand} {s:Nat} {u:Value} (h:Opd (P:=P) G σ w x (.one (.sref s)) u):∃ e y q cap,σ s=.bblk e y q∧u=.slice (some ⟨(G.loc s).1,(G.loc s).2,none⟩) y.length cap∧y.length≤cap∧(q=true→cap=y.length):=by
 obtain ⟨t,h1,_⟩:=h.ok
 exact h1
theorem Opd.eref {x:Operand} {s i:Nat} {u:Value} (h:Opd (P:=P) G σ w x (.one (.eref s i)) u):(∃ e y q,σ s=.bblk e y q)∧u=.pointer (some ⟨(G.loc s).1,(G.loc s).2+i,none⟩):=by
 obtain ⟨t,h1,_⟩:=h.ok
 exact h1
theorem Opd.prow {x:Operand} {s:Nat} {os:List Nat} {u:Value} (h:Opd (P:=P) G σ w x (.one (.prow s os)) u):(∃ cs,σ s=.box cs)∧(os.length:Int)≤ad0∧∃ b off,u=.slice (some ⟨b,off,none⟩) os.length os.length∧∀ (j q:Nat),os[j]?=some q→G.I b (off+j)∧w.cell? ⟨b,off+j,none⟩=some (.pointer (some ⟨(G.loc s).1,(G.loc s).2+q,none⟩)):=by
 obtain ⟨t,h1,_⟩:=h.ok
 exact h1
theorem Opd.pcell {x:Operand} {s q:Nat} {u:Value} (h:Opd (P:=P) G σ w x (.one (.pcell s q)) u):(∃ cs,σ s=.box cs)∧∃ b off,u=.pointer (some ⟨b,off,none⟩)∧G.I b off∧w.cell? ⟨b,off,none⟩=some (.pointer (some ⟨(G.loc s).1,(G.loc s).2+q,none⟩)):=by
 obtain ⟨t,h1,_⟩:=h.ok
 exact h1
theorem Opd.aref {x:Operand} {s off m:Nat} {i:Int} {u:Value} (h:Opd (P:=P) G σ w x (.one (.aref s off m i)) u):(∃ cs,σ s=.box cs)∧(0≤i∧i < m)∧u=.pointer (some ⟨(G.loc s).1,(G.loc s).2+(off+i.toNat),none⟩):=by
 obtain ⟨t,h1,_⟩:=h.ok
 exact h1
theorem Opd.im {x:Operand} {cs:List (CV U.τ)} {u:Value} (h:Opd (P:=P) G σ w x (.im cs) u):∃ b off,u=.pointer (some ⟨b,off,none⟩)∧∀ (j:Nat) c,cs[j]?=some c→G.I b (off+j)∧∃ y,w.cell? ⟨b,off+j,none⟩=some y∧PC P U w G.I c y:=by
 obtain ⟨t,h1,_⟩:=h.ok
 exact h1
theorem Opd.agg {x:Operand} {cs:List (CV U.τ)} {u:Value} (h:Opd (P:=P) G σ w x (.agg cs) u):ak5 P U w G.I true cs u:=by
 obtain ⟨t,h1,_⟩:=h.ok
 exact h1
theorem dh6 {c:CV U.τ} {e:Nat} {css:List (List (CV U.τ))} (h:cont c=some (e,css,.app)):cont c.plain=some (e,css,.ro):=by
 cases c with
 | sl e xs f=>simp only [cont,Option.some.injEq,Prod.mk.injEq] at h; obtain ⟨rfl,rfl,rfl⟩:=h; rfl
 | bs e s f=>simp only [cont,Option.some.injEq,Prod.mk.injEq] at h; obtain ⟨rfl,rfl,rfl⟩:=h; rfl
 | _=>simp [cont] at h
theorem aU3.plain {I:Nat→Nat→Prop} {who:Nat→Option (Nat × Option Nat)} {L:Nat × Option Nat} {c:CV U.τ} {u:Value} (h:aU3 P U w I who L c u):PC P U w I c.plain u:=by
 obtain ⟨e,css,h1,h2,h3⟩:=h
 rcases h3 with ⟨rfl,rfl⟩ | ⟨b,off,cap,rfl,h4,h5,h6⟩
 ·exact .nil _ e .ro (dh6 h1) (by simp)
 ·exact PC.of_cont (dh6 h1) (by simp) h4 (by simp) h2 h5
theorem PC.plain {I:Nat→Nat→Prop} {c:CV U.τ} {u:Value} (h:PC P U w I c u):PC P U w I c.plain u:=by
 cases c with
 | sl e xs f=>
  cases f with
  | app=>exact absurd rfl (h.slice rfl).1
  | _=>exact h
 | bs e xs f=>
  cases f with
  | app=>exact absurd rfl (h.slice rfl).1
  | _=>exact h
 | _=>exact h
theorem ae3.plain {I:Nat→Nat→Prop} {who:Nat→Option (Nat × Option Nat)} {L:Nat × Option Nat} {c:CV U.τ} {u:Value} (h:ae3 P U w I who L c u):PC P U w I c.plain u:=by
 rcases h with h | h
 ·exact h.plain
 ·exact h.plain
theorem ac9.plainOne {t:Nat} {c:CV U.τ} {u:Value} (h:ac9 P U G σ w t (.one c) u) (h1:c≠.any) (h2:∀ s o,c≠.ref s o) (h3:∀ s,c≠.sref s) (h4:∀ s i,c≠.eref s i) (h5:∀ s o,c≠.prow s o) (h6:∀ s o,c≠.pcell s o) (h7:∀ s o m i,c≠.aref s o m i):PC P U w G.I c.plain u:=by
 cases c with
 | any=>exact absurd rfl h1
 | ref s o=>exact absurd rfl (h2 s o)
 | sref s=>exact absurd rfl (h3 s)
 | eref s i=>exact absurd rfl (h4 s i)
 | prow s i=>exact absurd rfl (h5 s i)
 | pcell s i=>exact absurd rfl (h6 s i)
 | aref s q m i=>exact absurd rfl (h7 s q m i)
 | bool b=>exact ae3.plain h
 | int k n=>exact ae3.plain h
 | str s=>exact ae3.plain h
 | fn f=>exact ae3.plain h
 | sl e xs f=>exact ae3.plain h
 | bs e s f=>exact ae3.plain h
theorem bh1 {t:Nat} {v:AV U.τ} {u:Value} {ag:Bool} {cs:List (CV U.τ)} (h:ac9 P U G σ w t v u) (hc:cellsOf v=some (ag,cs)):ak5 P U w G.I ag cs u:=by
 cases v with
 | one c=>
  cases c with
  | any=>simp [cellsOf] at hc
  | ref s o=>simp [cellsOf] at hc
  | sref s=>simp [cellsOf] at hc
  | eref s i=>simp [cellsOf] at hc
  | prow s i=>simp [cellsOf] at hc
  | pcell s i=>simp [cellsOf] at hc
  | aref s q m i=>simp [cellsOf] at hc
  | _=>
   simp only [cellsOf,Option.some.injEq,Prod.mk.injEq] at hc
   obtain ⟨rfl,rfl⟩:=hc
   exact ⟨_,rfl,ae3.plain h⟩
 | agg cs'=>
  simp only [cellsOf,Option.some.injEq,Prod.mk.injEq] at hc
  obtain ⟨rfl,rfl⟩:=hc
  exact h
 | _=>simp [cellsOf] at hc
theorem R.cells (r:R P U N L0 G0 w0 G σ a w) {ty:TypeId} {x:Operand} {k:Bool→List (CV U.τ)→ac6 U} {rd:List Nat} {ws:List (Nat × AV U.τ)} (h:aa5 P U σ (cj5 P ty x k) rd ws) :
  ∃ ag cs rd',ak5 P U w G.I ag cs (a.eval x)∧aa5 P U σ (k ag cs) rd' ws:=by
 obtain ⟨v,rd',h1,h2⟩:=r.opd h
 cases hc:cellsOf v with
 | none=>rw [hc] at h2; exact h2.of_fail.elim
 | some p=>
  obtain ⟨ag,cs⟩:=p
  rw [hc] at h2
  obtain ⟨t,h3,_⟩:=h1.ok
  exact ⟨ag,cs,rd',bh1 h3 hc,h2⟩
theorem R.int (r:R P U N L0 G0 w0 G σ a w) {ty:TypeId} {x:Operand} {k:IntKind→Int→ac6 U} {rd:List Nat} {ws:List (Nat × AV U.τ)} (h:aa5 P U σ (aP4 P ty x k) rd ws) :
  ∃ i n rd',a.eval x=.int i n∧i.has n∧aa5 P U σ (k i n) rd' ws:=by
 obtain ⟨c,rd',h1,h2⟩:=r.opd1 h
 cases c with
 | int i n=>exact ⟨i,n,rd',h1.int.1,h1.int.2,h2⟩
 | _=>exact h2.of_fail.elim
theorem aa5.of_wr {dst:Option Nat} {v:AV U.τ} {more:List (Nat × AV U.τ)} {rd:List Nat} {ws:List (Nat × AV U.τ)} (h:aa5 P U σ (wr dst v more) rd ws) :
  (dst=none∧ws=more)∨∃ d,dst=some d∧ws=(d,v)::more∧(σ d).owner=false:=by
 cases dst with
 | none=>exact .inl ⟨rfl,h.of_done⟩
 | some d=>
  obtain ⟨rd',h⟩:=h.of_read
  obtain ⟨hb,h⟩:=aa5.of_cond' h
  exact .inr ⟨d,rfl,h.of_done,hb⟩
theorem bs4 {t d:Nat} {u:Value} (hd:d < a.tmps.size):(a.put (some d) u).tmps.getD t undef=if t=d then u else a.tmps.getD t undef:=by
 simp only [Act.put,Array.getD_eq_getD_getElem?,Array.getElem?_setIfInBounds]
 by_cases h:d=t
 ·subst h; simp [hd]
 ·simp [h,Ne.symm h]
theorem R.put (r:R P U N L0 G0 w0 G σ a w) {d:Nat} {v:AV U.τ} {u:Value} (hd:d < N) (ho:(σ d).owner=false) (hv:v.owner=false) (h:∀ t,ac9 P U G σ w t v u) :
  R P U N L0 G0 w0 G (upd σ d v) (a.put (some d) u) w:=by
 have hn:∀ s,(σ s).owner=true→s≠d:=fun s hs he=>by subst he; rw [ho] at hs; cases hs
 have x:Ext (fun _=>False) G G σ (upd σ d v) w w:=
  ⟨fun _ _ h=>⟨h,rfl⟩,fun _ _ h _=>⟨h,rfl,fun _ h=>h⟩,fun _ _=>rfl,fun s cs hs=>⟨cs,by simp [upd,hn s (by rw [hs]; rfl),hs]⟩,
   fun s e y q hs=>⟨e,y,by simp [upd,hn s (by rw [hs]; rfl),hs],rfl⟩⟩
 refine r.go x (.refl G w) rfl (by simp [Act.put]) (fun _ _=>rfl) (fun b o h=>.inl h) (fun b L h=>.inl ⟨L,h⟩) (fun t cs' ht hσ=>?_) (fun t=>?_)
 ·have:t≠d:=fun he=>by have:=r.small; omega
  simp only [upd,this,if_false] at hσ
  exact ⟨cs',hσ,rfl,fun _ _=>rfl⟩
 ·rw [bs4 (Nat.lt_of_lt_of_le hd r.size)]
  by_cases ht:t=d
  ·subst ht
   right
   simp only [upd,if_true]
   exact (h t).mono x (fun h=>h) (fun _ h=>h) (fun hh=>by rw [hv] at hh; cases hh)
  ·left
   simp [upd,ht]
end
end Go.VI
namespace Go.VI
open Go
def az3 (P:Program) (o:Oper) (a:Act) (w:World) (K:Act→World→Prop):Prop:=
 match (execOp a.eval o).run P w with
 | .ok (.value v) w'=>K (a.put o.dst v) w'
 | .ok .skip w'=>K (a.put o.dst undef) w'
 | .ok (.enter f args) w'=>Calls P f args w' fun e w''=>∃ v,e=.returned v∧K (a.put o.dst v) w''
 | _=>False
theorem az3.wp {P:Program} {o:Oper} {a:Act} {w:World} {K:Act→World→Prop} {Q:Exit→Act→World→Prop} (h:az3 P o a w K):o.wp P a w K Q:=by
 unfold az3 at h
 unfold Oper.wp
 generalize (execOp a.eval o).run P w=r at *
 cases r with
 | ok n w'=>
  cases n <;> simp only [Oper.upon] at * <;> first | exact h | skip
  exact h.mono fun e w'' ⟨v,he,hk⟩=>by subst he; exact hk
 | halt x w'=>exact h.elim
theorem IntKind.has_wrap (k:IntKind) (n:Int):k.has (k.wrap n):=by
 have h2:∀ m:Nat,(0:Int) < 2 ^ m:=fun m=>by exact_mod_cast Nat.pow_pos (by omega:0 < 2)
 unfold IntKind.has IntKind.wrap IntKind.min IntKind.max
 cases k <;> simp only [IntKind.bits,IntKind.signed] <;> simp <;> omega
theorem run_sizeOf {P:Program} {t:TypeId} (h:1≤P.cellsOf t) (w:World):(sizeOf t).run P w=.ok (P.cellsOf t) w:=by
 unfold Program.cellsOf at *
 cases hi:P.info? t with
 | none=>rw [hi] at h; simp at h
 | some i=>simp [sizeOf,typeInfo,hi]
theorem dX7 {P:Program} {t:TypeId} (h:1≤P.cellsOf t):∃ i,P.info? t=some i∧i.size=P.cellsOf t:=by
 unfold Program.cellsOf at *
 cases hi:P.info? t with
 | none=>rw [hi] at h; simp at h
 | some i=>exact ⟨i,rfl,by simp⟩
theorem ep3 {P:Program} {t:TypeId} {d:TypeDesc} (h:P.underlying t=some d) (w:World) :
  (isAgg t).run P w=.ok (match d with | .struct _=>true | .array _ _=>true | _=>false) w:=by
 cases d <;> simp [isAgg,run_underlying h]
theorem Addr.add_none (b o n:Nat):(⟨b,o,none⟩:Addr).add n=⟨b,o+n,none⟩:=by
 unfold Addr.add
 split
 ·subst_vars; rfl
 ·rfl
section
variable {P:Program} {U:ad6} {N:Nat} {L0:Nat→Nat} {G0:ab7} {w0:World} {G:ab7} {σ:ac0 U} {a:Act} {w:World} {o:Oper} {adv:Adv}
abbrev ae5 (P:Program) (U:ad6) (N:Nat) (L0:Nat→Nat) (G0:ab7) (w0:World) (σ:ac0 U) (o:Oper) (a:Act) (w:World) (ws:List (Nat × AV U.τ)):Prop:=
 az3 P o a w fun a' w'=>∃ G',R P U N L0 G0 w0 G' (ad1 σ ws) a' w'
theorem R.value (r:R P U N L0 G0 w0 G σ a w) (hd:∀ d,o.dst=some d→d < N) {u:Value} (hrun:(execOp a.eval o).run P w=.ok (.value u) w) {v:AV U.τ} {rd:List Nat} {ws:List (Nat × AV U.τ)}
  (hw:aa5 P U σ (wr o.dst v) rd ws) (hv:v.owner=false) (h:∀ t,ac9 P U G σ w t v u):ae5 P U N L0 G0 w0 σ o a w ws:=by
 unfold ae5 az3
 rw [hrun]
 rcases hw.of_wr with ⟨h1,h2⟩ | ⟨d,h1,h2,h3⟩
 ·rw [h1,h2]
  exact ⟨G,r⟩
 ·rw [h1,h2]
  exact ⟨G,r.put (hd d h1) h3 hv h⟩
theorem R.valuePC (r:R P U N L0 G0 w0 G σ a w) (hd:∀ d,o.dst=some d→d < N) {u:Value} (hrun:(execOp a.eval o).run P w=.ok (.value u) w) {c:CV U.τ} {rd:List Nat} {ws:List (Nat × AV U.τ)}
  (hw:aa5 P U σ (wr o.dst (.one c)) rd ws) (h:PC P U w G.I c u):ae5 P U N L0 G0 w0 σ o a w ws:=
 r.value hd hrun hw rfl fun _=>ac9.of_pc h
theorem ac9.plain {t:Nat} {v:AV U.τ} {u:Value} (h:ac9 P U G σ w t v u) (hv:v.owner=false):v.plain.owner=false∧∀ t',ac9 P U G σ w t' v.plain u:=by
 cases v with
 | one c=>
  refine ⟨rfl,fun t'=>?_⟩
  cases c with
  | any=>trivial
  | ref s o=>exact h
  | sref s=>exact h
  | eref s i=>exact h
  | prow s i=>exact h
  | pcell s i=>exact h
  | aref s q m i=>exact h
  | bool b=>exact ac9.of_pc (ae3.plain h)
  | int k n=>exact ac9.of_pc (ae3.plain h)
  | str s=>exact ac9.of_pc (ae3.plain h)
  | fn f=>exact ac9.of_pc (ae3.plain h)
  | sl e xs f=>exact ac9.of_pc (ae3.plain h)
  | bs e s f=>exact ac9.of_pc (ae3.plain h)
 | undef=>exact ⟨rfl,fun _=>trivial⟩
 | agg cs=>exact ⟨rfl,fun _=>h⟩
 | tup vs=>exact ⟨rfl,fun _=>h⟩
 | im cs=>exact ⟨rfl,fun _=>h⟩
 | box cs=>cases hv
 | bblk e s q=>cases hv
theorem bY7 {x:Operand} {v:AV U.τ} {u:Value} (h:Opd (P:=P) G σ w x v u):v.plain.owner=false∧∀ t',ac9 P U G σ w t' v.plain u:=by
 obtain ⟨t,h1,_⟩:=h.ok
 exact h1.plain h.own
theorem eh1 (op:BinOp) (t:TypeId) (k:IntKind) (a b:Int) (h1:op≠.shl) (h2:op≠.shr) (w:World) :
  (Go.binOp op t (.int k a) (.int k b)).run P w=(match op with
   | .add | .sub | .mul=>Op.intArith op k a b
   | .quo | .rem=>Op.intDiv op k a b
   | .and | .or | .xor | .andNot=>Op.intBits op k a b
   | _=>Op.intCmp op a b).run P w:=by
 cases op <;> first | (exact absurd rfl h1) | (exact absurd rfl h2) | simp [Go.binOp]
theorem bN9 (op:BinOp) (t:TypeId) (x y:Operand) (u v:Value) (h:∀ cs,u≠.agg cs) (h':u≠.nilIface) (w:World):(eqGuard op t x y u v).run P w=.ok () w:=by
 unfold eqGuard
 cases op <;> first | (simp; done) | skip
 all_goals
  simp only [Sem.run_ite,Bool.not_true,Bool.false_eq_true,if_false]
  cases u <;> first | rfl | (exact absurd rfl h') | (exact absurd rfl (h _)) | (cases v <;> rfl)
theorem dX8 (op:BinOp) (t:TypeId) (x y:Operand) (us vs:Array Value) (h:P.eqGuardType P.depth t=false) (w:World):(eqGuard op t x y (.agg us) (.agg vs)).run P w=.ok () w:=by
 unfold eqGuard
 cases op <;> simp [h]
def ce0:TypeDesc→Bool
 | .struct _=>true
 | .array _ _=>true
 | _=>false
theorem aB3 {t:TypeId} {d:TypeDesc} (h:P.underlying t=some d) (w:World):(isAgg t).run P w=.ok (ce0 d) w:=by
 rw [ep3 h]; cases d <;> rfl
theorem PC.of_bool {I:Nat→Nat→Prop} {b:Bool} {u:Value} (h:PC P U w I (.bool b) u):u=.bool b:=by
 cases h with
 | bool b=>rfl
 | nil _ _ _ h1=>simp [cont] at h1
 | emp _ _ _ _ h1=>simp [cont] at h1
 | row _ _ _ _ _ _ _ h1=>simp [cont] at h1
theorem PC.of_int {I:Nat→Nat→Prop} {k:IntKind} {n:Int} {u:Value} (h:PC P U w I (.int k n) u):u=.int k n∧k.has n:=by
 cases h with
 | int _ _ h=>exact ⟨rfl,h⟩
 | nil _ _ _ h1=>simp [cont] at h1
 | emp _ _ _ _ h1=>simp [cont] at h1
 | row _ _ _ _ _ _ _ h1=>simp [cont] at h1
theorem PC.of_str {I:Nat→Nat→Prop} {s:List UInt8} {u:Value} (h:PC P U w I (.str s) u):u=.string ⟨⟨s⟩⟩∧(s.length:Int)≤ad0:=by
 cases h with
 | str _ h=>exact ⟨rfl,h⟩
 | nil _ _ _ h1=>simp [cont] at h1
 | emp _ _ _ _ h1=>simp [cont] at h1
 | row _ _ _ _ _ _ _ h1=>simp [cont] at h1
theorem aQ7 {t:TypeId} {d:TypeDesc} (ht:P.underlying t=some d) (h:ce0 d=false) (us:Array Value) (off:Nat) {u:Value} (hu:us[off]?=some u) (w:World) :
  (part t us off).run P w=.ok u w:=by
 simp only [part,Sem.run_bind,aB3 ht,h,Result.andThen_ok]
 simp [hu]
theorem dz2 {I:Nat→Nat→Prop} {t:TypeId} {c d:CV U.τ} {u v:Value} {r:Bool} (h:cF3 P t c d=some r) (hc:PC P U w I c u) (hd:PC P U w I d v) :
  ∃ ds,P.underlying t=some ds∧ce0 ds=false∧∀ k,(Op.equalIn (k+1) t u v).run P w=.ok r w:=by
 unfold cF3 at h
 split at h
 ·rename_i hu
  injection h with h; subst h
  rw [hc.of_bool,hd.of_bool]
  exact ⟨_,hu,rfl,fun k=>run_equalIn_bool' w k _ _ _ hu⟩
 ·rename_i k' k a j b hu
  cases hk:decide (k=j) with
  | false=>rw [hk] at h; cases h
  | true=>
   rw [hk] at h
   injection h with h; subst h
   have hkj:k=j:=of_decide_eq_true hk
   subst hkj
   rw [hc.of_int.1,hd.of_int.1]
   exact ⟨_,hu,rfl,fun k=>run_equalIn_int w k _ _ _ _ _ hu⟩
 ·rename_i hu
  injection h with h; subst h
  rw [hc.of_str.1,hd.of_str.1]
  refine ⟨_,hu,rfl,fun k=>?_⟩
  rw [run_equalIn_string w k _ _ _ hu,ByteArray.toList_eq,ByteArray.toList_eq]
 ·cases h
theorem dc3:∀ l:List Bool,ds7 l=l.all id
 | []=>rfl
 | [x]=>by simp [ds7]
 | x::y::r=>by show (x && ds7 (y::r))=_; rw [dc3 (y::r)]; rfl
theorem cq9 {I:Nat→Nat→Prop} {e:TypeId} (k:Nat) (us vs:Array Value):∀ (as bs:List (CV U.τ)) (o:Nat) (l:List Bool),aF0 P e as bs=some l→
  (∀ (j:Nat) c,as[j]?=some c→∃ u,us[o+j]?=some u∧PC P U w I c u)→(∀ (j:Nat) c,bs[j]?=some c→∃ u,vs[o+j]?=some u∧PC P U w I c u)→
  (Op.eqItems (k+1) e 1 us vs (List.range' o as.length)).run P w=.ok (l.all id) w
 | [],[],o,l,h,_,_=>by
  simp only [aF0,Option.some.injEq] at h; subst h
  simp [Op.eqItems]
 | [],_::_,_,_,h,_,_=>by simp [aF0] at h
 | _::_,[],_,_,h,_,_=>by simp [aF0] at h
 | a::as,b::bs,o,l,h,ha,hb=>by
  simp only [aF0] at h
  split at h
  ·rename_i x l' hx hl
   injection h with h; subst h
   obtain ⟨u,hu,hcu⟩:=ha 0 a rfl
   obtain ⟨v,hv,hdv⟩:=hb 0 b rfl
   rw [Nat.add_zero] at hu hv
   obtain ⟨ds,h3,h4,h5⟩:=dz2 hx hcu hdv
   have hp1:=aQ7 h3 h4 us o hu w
   have hp2:=aQ7 h3 h4 vs o hv w
   have:=cq9 k us vs as bs (o+1) l' hl (fun j c hj=>by have:=ha (j+1) c (by simpa using hj); rwa [show o+(j+1)=o+1+j by omega] at this)
    (fun j c hj=>by have:=hb (j+1) c (by simpa using hj); rwa [show o+(j+1)=o+1+j by omega] at this)
   rw [List.length_cons,List.range'_succ]
   simp only [Op.eqItems,Nat.mul_one,Sem.run_bind,hp1,hp2,h5,Result.andThen_ok,Sem.run_ite,this]
   cases x <;> simp
  ·cases h
theorem eK7 {t:TypeId} {d:TypeDesc} (h:P.underlying t=some d):∃ i,P.info? t=some i:=by
 unfold Program.underlying at h
 cases hi:P.info? t with
 | none=>simp [hi] at h
 | some i=>exact ⟨i,rfl⟩
theorem dM6 {I:Nat→Nat→Prop} {t:TypeId} (us vs:Array Value) {as bs:List (CV U.τ)} {o:Nat} {l:List Bool} (h:bz2 P t as bs=some l) (hn:as.length≤P.cellsOf t)
  (ha:∀ (j:Nat) c,as[j]?=some c→∃ u,us[o+j]?=some u∧PC P U w I c u) (hb:∀ (j:Nat) c,bs[j]?=some c→∃ u,vs[o+j]?=some u∧PC P U w I c u) :
  ∃ a b,(part t us o).run P w=.ok a w∧(part t vs o).run P w=.ok b w∧(Op.equalIn 9999 t a b).run P w=.ok (l.all id) w:=by
 unfold bz2 at h
 split at h
 ·rename_i n e hu
  cases hc:(Nat.beq (P.cellsOf e) 1 && Nat.beq as.length n) with
  | false=>rw [hc] at h; cases h
  | true=>
   rw [hc,cond_true] at h
   rw [Bool.and_eq_true] at hc
   have h1:=Nat.eq_of_beq_eq_true hc.1
   have h2:=Nat.eq_of_beq_eq_true hc.2
   obtain ⟨it,hit⟩:=eK7 hu
   have he:∃ i,P.info? e=some i:=by
    unfold Program.cellsOf at h1
    cases hi:P.info? e with
    | none=>rw [hi] at h1; simp at h1
    | some i=>exact ⟨i,rfl⟩
   obtain ⟨ie,hie⟩:=he
   have hp:∀ xs:Array Value,(part t xs o).run P w=.ok (.agg (xs.extract o (o+P.cellsOf t))) w:=fun xs=>by
    simp only [part,Sem.run_bind,aB3 hu,ce0,Result.andThen_ok,if_true,_root_.Go.run_sizeOf w hit,Sem.run_pure]
   refine ⟨_,_,hp us,hp vs,?_⟩
   rw [run_equalIn_array w 9998 _ _ hu hie,h1,List.range_eq_range',← h2]
   have len:∀ (xs:List (CV U.τ)) (ws:Array Value),xs.length≤P.cellsOf t→(∀ (j:Nat) c,xs[j]?=some c→∃ u,ws[o+j]?=some u∧PC P U w I c u)→∀ (j:Nat) c,xs[j]?=some c→∃ u,(ws.extract o (o+P.cellsOf t))[0+j]?=some u∧PC P U w I c u:=by
    intro xs ws hl hx j c hj
    obtain ⟨u,hu,hp⟩:=hx j c hj
    have hjl:j < xs.length:=(List.getElem?_eq_some_iff.1 hj).1
    refine ⟨u,?_,hp⟩
    rw [Nat.zero_add,Array.getElem?_extract_of_lt (by have:=(Array.getElem?_eq_some_iff.1 hu).1; omega)]
    exact (Array.getElem?_eq_getElem _).symm.trans hu
   have lb:∀ (as bs:List (CV U.τ)) (l:List Bool),aF0 P e as bs=some l→bs.length=as.length:=by
    intro as
    induction as with
    | nil=>intro bs l h; cases bs with | nil=>rfl | cons=>simp [aF0] at h
    | cons a as ih=>
     intro bs l h
     cases bs with
     | nil=>simp [aF0] at h
     | cons b bs=>
      simp only [aF0] at h
      split at h
      ·rename_i x l' hx hl; rw [List.length_cons,List.length_cons,ih bs l' hl]
      ·cases h
   exact cq9 9997 _ _ as bs 0 l h (len as us hn ha) (len bs vs (by rw [lb as bs l h]; exact hn) hb)
 ·split at h
  ·rename_i a b
   cases hq:cF3 P t a b with
   | none=>rw [hq] at h; cases h
   | some x=>
    rw [hq] at h
    injection h with h; subst h
    obtain ⟨u,hu,hcu⟩:=ha 0 a rfl
    obtain ⟨v,hv,hdv⟩:=hb 0 b rfl
    rw [Nat.add_zero] at hu hv
    obtain ⟨ds,h3,h4,h5⟩:=dz2 hq hcu hdv
    exact ⟨u,v,aQ7 h3 h4 us o hu w,aQ7 h3 h4 vs o hv w,by rw [h5 9998]; simp⟩
  ·cases h
theorem dX9 {I:Nat→Nat→Prop} (us vs:Array Value):∀ (fs:List Field) (i:Nat) (as bs:List (CV U.τ)) (l:List Bool),bg9 P fs i as bs=some l→
  (∀ (j:Nat) c,as[j]?=some c→∃ u,us[i+j]?=some u∧PC P U w I c u)→(∀ (j:Nat) c,bs[j]?=some c→∃ u,vs[i+j]?=some u∧PC P U w I c u)→
  (Op.eqFields 9999 us vs fs).run P w=.ok (l.all id) w:=by
 intro fs
 induction fs with
 | nil=>intro i as bs l hr _ _; simp only [bg9,Option.some.injEq] at hr; subst hr; simp [Op.eqFields]
 | cons f fs ih=>
  intro i as bs l hr ha hb
  simp only [bg9] at hr
  cases hc:((f.name != "_") && Nat.beq f.offset i) with
  | false=>rw [hc] at hr; cases hr
  | true=>
   rw [hc,cond_true] at hr
   simp only [Bool.and_eq_true,bne_iff_ne,ne_eq] at hc
   have hoff:=Nat.eq_of_beq_eq_true hc.2
   split at hr
   ·rename_i x y hx hy
    injection hr with hr; subst hr
    obtain ⟨a,b,p1,p2,p3⟩:=dM6 us vs (o:=i) hx (by rw [List.length_take]; omega)
     (fun j c hj=>ha j c (by rw [List.getElem?_take] at hj; split at hj; exact hj; cases hj))
     (fun j c hj=>hb j c (by rw [List.getElem?_take] at hj; split at hj; exact hj; cases hj))
    have:=ih _ _ _ y hy (fun j c hj=>by rw [List.getElem?_drop] at hj; have:=ha _ c hj; rwa [← Nat.add_assoc] at this)
     (fun j c hj=>by rw [List.getElem?_drop] at hj; have:=hb _ c hj; rwa [← Nat.add_assoc] at this)
    rw [← hoff] at p1 p2
    simp only [Op.eqFields,ne_eq,hc.1,not_false_eq_true,if_true,Sem.run_bind,p1,p2,p3,Result.andThen_ok,Sem.run_ite,this,List.all_append]
    cases x.all id <;> simp
   ·cases hr
theorem ez6 {I:Nat→Nat→Prop} {t:TypeId} {as bs:List (CV U.τ)} {u v:Value} {r:Bool} (h:dK6 P t as bs=some r) (ha:ak5 P U w I true as u) (hb:ak5 P U w I true bs v) :
  ∃ us vs,u=.agg us∧v=.agg vs∧P.eqGuardType P.depth t=false∧(Op.equalIn 10000 t u v).run P w=.ok r w:=by
 unfold dK6 at h
 split at h
 ·rename_i fs hu
  cases hc:(P.eqGuardType P.depth t || P.stoodInHeld t) with
  | true=>rw [hc] at h; cases h
  | false=>
   rw [hc] at h
   simp only [cond_false] at h
   simp only [Bool.or_eq_false_iff] at hc
   obtain ⟨us,rfl,h1,h2⟩:=ha
   obtain ⟨vs,rfl,h3,h4⟩:=hb
   refine ⟨us,vs,rfl,rfl,hc.1,?_⟩
   have hf:P.fieldsOf t=fs:=by simp [Program.fieldsOf,hu]
   rw [run_equalIn_struct w 9999 t us vs (by rw [hf]; exact hu) hc.2,hf]
   split at h
   ·rename_i l hl
    injection h with h; subst h
    rw [dc3]
    exact dX9 us vs fs.toList 0 as bs l hl (fun j c hj=>by rw [Nat.zero_add]; exact h2 j c hj) (fun j c hj=>by rw [Nat.zero_add]; exact h4 j c hj)
   ·cases h
 ·rename_i n e hu
  cases hc:P.eqGuardType P.depth t with
  | true=>rw [hc] at h; cases h
  | false=>
   rw [hc,cond_false] at h
   obtain ⟨us,rfl,h1,h2⟩:=ha
   obtain ⟨vs,rfl,h3,h4⟩:=hb
   refine ⟨us,vs,rfl,rfl,rfl,?_⟩
   split at h
   ·rename_i l hl
    injection h with h; subst h
    rw [dc3]
    unfold bz2 at hl
    rw [hu] at hl
    dsimp only at hl
    cases hq:(Nat.beq (P.cellsOf e) 1 && Nat.beq as.length n) with
    | false=>rw [hq] at hl; cases hl
    | true=>
     rw [hq,cond_true] at hl
     rw [Bool.and_eq_true] at hq
     have q1:=Nat.eq_of_beq_eq_true hq.1
     have q2:=Nat.eq_of_beq_eq_true hq.2
     have he:∃ i,P.info? e=some i:=by
      unfold Program.cellsOf at q1
      cases hi:P.info? e with
      | none=>rw [hi] at q1; simp at q1
      | some i=>exact ⟨i,rfl⟩
     obtain ⟨ie,hie⟩:=he
     rw [run_equalIn_array w 9999 _ _ hu hie,q1,List.range_eq_range',← q2]
     exact cq9 9998 us vs as bs 0 l hl (fun j c hj=>by rw [Nat.zero_add]; exact h2 j c hj) (fun j c hj=>by rw [Nat.zero_add]; exact h4 j c hj)
   ·cases h
 ·cases h
end
end Go.VI
namespace Go.VI
open Go
section
variable {P:Program} {U:ad6} {N:Nat} {L0:Nat→Nat} {G0:ab7} {w0:World} {G:ab7} {σ:ac0 U} {a:Act} {w:World} {o:Oper} {adv:Adv}
theorem bz3 (op:BinOp) (k:IntKind) (x y:Int):k.has (an0 op k x y):=by
 cases op <;> exact IntKind.has_wrap _ _
theorem dY0 (m:Nat):(0:Int) < 2 ^ m:=by exact_mod_cast Nat.pow_pos (by omega:0 < 2)
theorem ez7 (k:IntKind) (x:Int) (m:Nat) (h:k.has x):k.has (x.fdiv (2 ^ m)):=by
 have h2:=dY0 m
 rw [Int.fdiv_eq_ediv_of_nonneg x (by omega)]
 unfold IntKind.has IntKind.min IntKind.max at *
 have lo:∀ b:Int,b≤0→b≤x→b≤x / 2 ^ m:=fun b hb hx=>by
  rw [Int.le_ediv_iff_mul_le h2]
  have:b * 2 ^ m≤b * 1:=Int.mul_le_mul_of_nonpos_left hb (by omega)
  omega
 have hi:∀ b:Int,0≤b→x≤b→x / 2 ^ m≤b:=fun b hb hx=>by
  apply Int.le_of_lt_add_one
  rw [Int.ediv_lt_iff_lt_mul h2]
  have:(b+1) * 1≤(b+1) * 2 ^ m:=Int.mul_le_mul_of_nonneg_left (by omega) (by omega)
  omega
 cases k <;> simp only [IntKind.bits,IntKind.signed] at * <;> simp at * <;> exact ⟨lo _ (by omega) h.1,hi _ (by omega) h.2⟩
theorem dM7 (x y:Int):(0≤x→0≤x.tmod y∧x.tmod y≤x)∧(x≤0→x≤x.tmod y∧x.tmod y≤0):=by
 have key:∀ x:Int,0≤x→0≤x.tmod y∧x.tmod y≤x:=fun x hx=>by
  have h1:=Int.tmod_nonneg y hx
  have h2:=Int.natAbs_tmod x y
  have h3:=Nat.mod_le x.natAbs y.natAbs
  omega
 refine ⟨key x,fun hx=>?_⟩
 have h:=key (-x) (by omega)
 rw [Int.neg_tmod] at h
 omega
theorem ez8 (k:IntKind) (x y:Int) (h:k.has x):k.has (x.tmod y):=by
 have:=dM7 x y
 unfold IntKind.has IntKind.min IntKind.max at *
 cases k <;> simp only [IntKind.bits,IntKind.signed] at * <;> simp at * <;> omega
theorem ez9 (k j:IntKind) (x y:Int) (h:0≤y) (w:World):(Op.shift .shl k x j y).run P w=.ok (.int k (am6 k x y)) w:=by
 unfold Op.shift am6
 rw [Int.mul_comm (2 ^ _) x]
 rw [if_neg (by omega)]
 rfl
theorem eA0 (k j:IntKind) (x y:Int) (h:0≤y) (w:World):(Op.shift .shr k x j y).run P w=.ok (.int k (ae4 k x y)) w:=by
 unfold Op.shift ae4
 rw [if_neg (by omega)]
 rfl
theorem eK8 (r:R P U N L0 G0 w0 G σ a w) {t:TypeId} {op:BinOp} {x y:Operand} {v1 v2:AV U.τ} (h1:Opd (P:=P) G σ w x v1 (a.eval x)) (h2:Opd (P:=P) G σ w y v2 (a.eval y)) {k:CV U.τ→ac6 U} {rd:List Nat} {ws:List (Nat × AV U.τ)}
  (h:aa5 P U σ (ds8 P t op v1 v2 k) rd ws) :
  ∃ c u rd',aa5 P U σ (k c) rd' ws∧PC P U w G.I c u∧(eqGuard op t x y (a.eval x) (a.eval y)).run P w=.ok () w∧(Go.binOp op t (a.eval x) (a.eval y)).run P w=.ok u w:=by
 have int2:∀ i j a1 b1,v1=.one (.int i a1)→v2=.one (.int j b1)→∃ c u rd',aa5 P U σ (k c) rd' ws∧PC P U w G.I c u∧(eqGuard op t x y (a.eval x) (a.eval y)).run P w=.ok () w∧(Go.binOp op t (a.eval x) (a.eval y)).run P w=.ok u w:=by
  intro i j a1 b1 e1 e2
  subst e1; subst e2
  obtain ⟨e1,hi⟩:=h1.int
  obtain ⟨e2,hj⟩:=h2.int
  rw [e1,e2]
  have hg:=bN9 (P:=P) op t x y (.int i a1) (.int j b1) (by simp) (by simp) w
  simp only [ds8] at h
  by_cases hl:op=.shl
  ·subst hl
   obtain ⟨hp,h⟩:=h.of_guard
   exact ⟨_,_,rd,h,.int _ _ (IntKind.has_wrap _ _),hg,ez9 i j a1 b1 hp w⟩
  ·by_cases hr:op=.shr
   ·subst hr
    obtain ⟨hp,h⟩:=h.of_guard
    exact ⟨_,_,rd,h,.int _ _ (ez7 _ _ _ hi),hg,eA0 i j a1 b1 hp w⟩
   ·have h':decide (i=j)=true∧∃ c u rd',aa5 P U σ (k c) rd' ws∧PC P U w G.I c u∧(match op with
      | .add | .sub | .mul=>Op.intArith op i a1 b1
      | .quo | .rem=>Op.intDiv op i a1 b1
      | .and | .or | .xor | .andNot=>Op.intBits op i a1 b1
      | _=>Op.intCmp op a1 b1).run P w=.ok u w:=by
     cases op <;> first | (exact absurd rfl hl) | (exact absurd rfl hr) | (obtain ⟨hd,h⟩:=aa5.of_cond h; refine ⟨hd,?_⟩)
     ·exact ⟨_,_,rd,h,.int _ _ (IntKind.has_wrap _ _),rfl⟩
     ·exact ⟨_,_,rd,h,.int _ _ (IntKind.has_wrap _ _),rfl⟩
     ·exact ⟨_,_,rd,h,.int _ _ (IntKind.has_wrap _ _),rfl⟩
     ·obtain ⟨hp,h⟩:=h.of_guard
      exact ⟨_,_,rd,h,.int _ _ (IntKind.has_wrap _ _),by simp [Op.intDiv,hp]⟩
     ·obtain ⟨hp,h⟩:=h.of_guard
      exact ⟨_,_,rd,h,.int _ _ (ez8 _ _ _ hi),by simp [Op.intDiv,hp]⟩
     ·exact ⟨_,_,rd,h,.int _ _ (bz3 _ _ _ _),rfl⟩
     ·exact ⟨_,_,rd,h,.int _ _ (bz3 _ _ _ _),rfl⟩
     ·exact ⟨_,_,rd,h,.int _ _ (bz3 _ _ _ _),rfl⟩
     ·exact ⟨_,_,rd,h,.int _ _ (bz3 _ _ _ _),rfl⟩
     ·exact ⟨_,_,rd,h,.bool _,rfl⟩
     ·exact ⟨_,_,rd,h,.bool _,rfl⟩
     ·exact ⟨_,_,rd,h,.bool _,rfl⟩
     ·exact ⟨_,_,rd,h,.bool _,rfl⟩
     ·exact ⟨_,_,rd,h,.bool _,rfl⟩
     ·exact ⟨_,_,rd,h,.bool _,rfl⟩
    obtain ⟨hd,c,u,rd',g1,g2,g3⟩:=h'
    have hij:i=j:=of_decide_eq_true hd
    subst hij
    exact ⟨c,u,rd',g1,g2,hg,by rw [eh1 op t i a1 b1 hl hr]; exact g3⟩
 have str2:∀ a1 b1,v1=.one (.str a1)→v2=.one (.str b1)→∃ c u rd',aa5 P U σ (k c) rd' ws∧PC P U w G.I c u∧(eqGuard op t x y (a.eval x) (a.eval y)).run P w=.ok () w∧(Go.binOp op t (a.eval x) (a.eval y)).run P w=.ok u w:=by
  intro a1 b1 e1 e2
  subst e1; subst e2
  obtain ⟨e1,hi⟩:=h1.str
  obtain ⟨e2,hj⟩:=h2.str
  rw [e1,e2]
  have hg:=bN9 (P:=P) op t x y (.string ⟨⟨a1⟩⟩) (.string ⟨⟨b1⟩⟩) (by simp) (by simp) w
  simp only [ds8] at h
  have heq:((⟨⟨a1⟩⟩:ByteArray).toList==(⟨⟨b1⟩⟩:ByteArray).toList)=(a1==b1):=by rw [ByteArray.toList_eq,ByteArray.toList_eq]
  cases op <;> simp only at h <;> first | exact h.of_fail.elim | skip
  ·obtain ⟨hp,h⟩:=h.of_guard
   have hp:=eK5 hp
   refine ⟨_,_,rd,h,.str _ (by rw [List.length_append]; unfold ad0 at *; omega),hg,?_⟩
   have:(⟨⟨a1++b1⟩⟩:ByteArray)=⟨⟨a1⟩⟩++⟨⟨b1⟩⟩:=(ByteArray.mk_append_mk a1 b1).symm
   rw [this]
   have hs:∀ l:List UInt8,(⟨⟨l⟩⟩:ByteArray).size=l.length:=fun _=>rfl
   exact run_string_add_sum w _ _ (by rw [hs,hs]; unfold ad0 at hp; omega)
  ·refine ⟨_,_,rd,h,.bool _,hg,?_⟩
   simp only [Go.binOp,Op.stringOp,heq]; rfl
  ·refine ⟨_,_,rd,h,.bool _,hg,?_⟩
   simp only [Go.binOp,Op.stringOp,heq]; rfl
 have bool2:∀ a1 b1,v1=.one (.bool a1)→v2=.one (.bool b1)→∃ c u rd',aa5 P U σ (k c) rd' ws∧PC P U w G.I c u∧(eqGuard op t x y (a.eval x) (a.eval y)).run P w=.ok () w∧(Go.binOp op t (a.eval x) (a.eval y)).run P w=.ok u w:=by
  intro a1 b1 e1 e2
  subst e1; subst e2
  rw [h1.bool,h2.bool]
  have hg:=bN9 (P:=P) op t x y (.bool a1) (.bool b1) (by simp) (by simp) w
  simp only [ds8] at h
  obtain ⟨hb,h⟩:=aa5.of_cond h
  have hu:P.underlying t=some .bool:=by
   cases hx:P.underlying t with
   | none=>rw [hx] at hb; cases hb
   | some d=>rw [hx] at hb; cases d <;> first | rfl | cases hb
  have he:=run_equalIn_bool' (P:=P) w 9999 t a1 b1 hu
  cases op <;> simp only at h <;> first | exact h.of_fail.elim | skip
  ·exact ⟨_,_,rd,h,.bool _,hg,by simp [Go.binOp,Op.equal,Op.maxDepth,he]⟩
  ·exact ⟨_,_,rd,h,.bool _,hg,by simp [Go.binOp,Op.equal,Op.maxDepth,he]⟩
 have agg2:∀ a1 b1,v1=.agg a1→v2=.agg b1→∃ c u rd',aa5 P U σ (k c) rd' ws∧PC P U w G.I c u∧(eqGuard op t x y (a.eval x) (a.eval y)).run P w=.ok () w∧(Go.binOp op t (a.eval x) (a.eval y)).run P w=.ok u w:=by
  intro a1 b1 e1 e2
  subst e1; subst e2
  have g1:=h1.agg
  have g2:=h2.agg
  simp only [ds8] at h
  cases hq:dK6 P t a1 b1 with
  | none=>rw [hq] at h; cases op <;> exact h.of_fail.elim
  | some q=>
   rw [hq] at h
   obtain ⟨us,vs,e1,e2,he,hr⟩:=ez6 hq g1 g2
   rw [e1,e2] at hr ⊢
   have hg:=dX8 (P:=P) op t x y us vs he w
   cases op <;> simp only at h <;> first | exact h.of_fail.elim | skip
   ·exact ⟨_,_,rd,h,.bool _,hg,by rw [run_eql_struct,hr]; rfl⟩
   ·exact ⟨_,_,rd,h,.bool _,hg,by rw [run_neq_struct,hr]; rfl⟩
 cases v1 with
 | one c1=>
  cases v2 with
  | one c2=>
   cases c1 <;> cases c2 <;> first | (exact int2 _ _ _ _ rfl rfl) | (exact str2 _ _ rfl rfl) | (exact bool2 _ _ rfl rfl) | exact h.of_fail.elim
  | _=>cases c1 <;> exact h.of_fail.elim
 | agg a1=>
  cases v2 with
  | agg b1=>exact agg2 _ _ rfl rfl
  | _=>exact h.of_fail.elim
 | _=>exact h.of_fail.elim
theorem eR9 (r:R P U N L0 G0 w0 G σ a w) (hd:∀ d,o.dst=some d→d < N) {op:BinOp} {t yt:TypeId} {x y:Operand} (ho:o.op=.binOp op t x y yt) {rd:List Nat} {ws:List (Nat × AV U.τ)} (h:aa5 P U σ (ac3 P adv o) rd ws) :
  ae5 P U N L0 G0 w0 σ o a w ws:=by
 simp only [ac3,ho] at h
 obtain ⟨v1,_,h1,h⟩:=r.opd h
 obtain ⟨v2,_,h2,h⟩:=r.opd h
 obtain ⟨c,u,_,hw,hpc,hg,hr⟩:=eK8 r h1 h2 h
 exact r.valuePC hd (by simp [execOp,ho,hg,hr]) hw hpc
theorem eW4 (r:R P U N L0 G0 w0 G σ a w) (hd:∀ d,o.dst=some d→d < N) {op:UnOp} {t:TypeId} {x:Operand} (ho:o.op=.unOp op t x) {rd:List Nat} {ws:List (Nat × AV U.τ)} (h:aa5 P U σ (ac3 P adv o) rd ws) :
  ae5 P U N L0 G0 w0 σ o a w ws:=by
 simp only [ac3,ho] at h
 obtain ⟨c,_,h1,h⟩:=r.opd1 h
 cases c with
 | bool b=>
  cases op <;> first | exact h.of_fail.elim | skip
  exact r.valuePC hd (by simp [execOp,ho,h1.bool,Op.unary]) h (.bool _)
 | int k n=>
  cases op <;> first | exact h.of_fail.elim | skip
  ·exact r.valuePC hd (by simp [execOp,ho,h1.int.1,Op.unary,Op.intArith]) h (.int _ _ (IntKind.has_wrap _ _))
  ·refine r.valuePC hd (u:=.int k (an0 .xor k (cond k.signed (-1) k.max) n)) ?_ h (.int _ _ (bz3 _ _ _ _))
   have:(if k.signed=true then (-1:Int) else k.max)=cond k.signed (-1) k.max:=by cases k.signed <;> rfl
   simp only [execOp,ho,h1.int.1,Op.unary,this]
   rfl
 | _=>exact h.of_fail.elim
theorem dY1 (r:R P U N L0 G0 w0 G σ a w) (hd:∀ d,o.dst=some d→d < N) {x:Operand} (ho:o.op=.nilCheck x) {rd:List Nat} {ws:List (Nat × AV U.τ)} (h:aa5 P U σ (ac3 P adv o) rd ws) :
  ae5 P U N L0 G0 w0 σ o a w ws:=by
 simp only [ac3,ho] at h
 obtain ⟨v,_,h1,h⟩:=r.opd h
 obtain ⟨k1,k2⟩:=bY7 h1
 cases v with
 | one c=>
  cases c <;> first | exact h.of_fail.elim | skip
  ·exact r.value hd (by simp [execOp,ho,h1.ref.2]; rfl) h rfl (by rw [← h1.ref.2]; exact k2)
  ·exact r.value hd (by simp [execOp,ho,h1.eref.2]; rfl) h rfl (by rw [← h1.eref.2]; exact k2)
  ·obtain ⟨_,b,off,hu,_⟩:=h1.pcell
   exact r.value hd (by simp [execOp,ho,hu]; rfl) h rfl (by rw [← hu]; exact k2)
  ·obtain ⟨_,_,hu⟩:=h1.aref
   exact r.value hd (by simp [execOp,ho,hu]; rfl) h rfl (by rw [← hu]; exact k2)
 | im cs=>
  obtain ⟨b,off,hu,_⟩:=h1.im
  exact r.value hd (by simp [execOp,ho,hu]; rfl) h rfl (by rw [← hu]; exact k2)
 | _=>exact h.of_fail.elim
theorem eh2 (r:R P U N L0 G0 w0 G σ a w) (hd:∀ d,o.dst=some d→d < N) {x:Operand} {i:Nat} (ho:o.op=.extract x i) {rd:List Nat} {ws:List (Nat × AV U.τ)} (h:aa5 P U σ (ac3 P adv o) rd ws) :
  ae5 P U N L0 G0 w0 σ o a w ws:=by
 simp only [ac3,ho] at h
 obtain ⟨v,_,h1,h⟩:=r.opd h
 cases v with
 | tup vs=>
  obtain ⟨t,⟨us,hu,hs,hv⟩,_⟩:=h1.ok
  simp only at h
  cases hi:vs[i]? with
  | none=>rw [hi] at h; exact h.of_fail.elim
  | some p=>
   obtain ⟨ag,cs⟩:=p
   obtain ⟨y,hy,hok⟩:=hv i ag cs hi
   have hrun:(execOp a.eval o).run P w=.ok (.value y) w:=by simp [execOp,ho,hu,Instr.extract,hy]
   rw [hi] at h
   cases ag with
   | true=>exact r.value hd hrun h rfl fun _=>hok
   | false=>
    obtain ⟨c,rfl,hc⟩:=hok
    exact r.valuePC hd hrun h hc
 | _=>exact h.of_fail.elim
theorem eK9 (r:R P U N L0 G0 w0 G σ a w) (hd:∀ d,o.dst=some d→d < N) {c x y:Operand} (ho:o.op=.pick c x y) {rd:List Nat} {ws:List (Nat × AV U.τ)} (h:aa5 P U σ (ac3 P adv o) rd ws) :
  ae5 P U N L0 G0 w0 σ o a w ws:=by
 simp only [ac3,ho] at h
 cases c with
 | tmp t=>
  obtain ⟨b,_,hb,h⟩:=h.of_split
  have hs:=r.slots t
  rw [hb] at hs
  have hc:a.eval (.tmp t)=.bool b:=PC.of_bool (by
   rcases hs with hs | ⟨_,_,h1,_⟩
   ·exact hs
   ·simp [cont] at h1)
  obtain ⟨v,_,h1,h⟩:=r.opd h
  obtain ⟨k1,k2⟩:=bY7 h1
  refine r.value hd ?_ h k1 k2
  simp only [execOp,ho,hc]
  cases b <;> rfl
 | _=>exact h.of_fail.elim
end
end Go.VI
namespace Go.VI
open Go
section
variable {P:Program} {U:ad6} {N:Nat} {L0:Nat→Nat} {G0:ab7} {w0:World} {G:ab7} {σ:ac0 U} {a:Act} {w:World} {o:Oper} {adv:Adv}
theorem getElem?_drop' {α:Type} (l:List α) (n j:Nat):(l.drop n)[j]?=l[n+j]?:=by simp [List.getElem?_drop]
theorem dM8 (r:R P U N L0 G0 w0 G σ a w) (hd:∀ d,o.dst=some d→d < N) {t:TypeId} {x:Operand} {j:Nat} (ho:o.op=.fieldAddr t x j) {rd:List Nat} {ws:List (Nat × AV U.τ)} (h:aa5 P U σ (ac3 P adv o) rd ws) :
  ae5 P U N L0 G0 w0 σ o a w ws:=by
 simp only [ac3,ho] at h
 split at h
 ·rename_i fs hu
  cases hj:fs[j]? with
  | none=>rw [hj] at h; exact h.of_fail.elim
  | some f=>
   rw [hj] at h
   obtain ⟨hz,h⟩:=aa5.of_cond' h
   have hz1:1≤P.cellsOf f.type:=by
    rcases Nat.eq_zero_or_pos (P.cellsOf f.type) with h0 | h0
    ·rw [h0] at hz; cases hz
    ·exact h0
   have run:∀ b o',a.eval x=.pointer (some ⟨b,o',none⟩)→(execOp a.eval o).run P w=.ok (.value (.pointer (some ⟨b,o'+f.offset,none⟩))) w:=by
    intro b o' he
    have hne:¬P.cellsOf f.type=0:=by omega
    simp [execOp,ho,he,Instr.fieldAt,run_underlying hu,hj,Instr.sureAddr,fieldPlace,run_sizeOf hz1,hne,Addr.add_none]
   obtain ⟨v,_,h1,h⟩:=r.opd h
   cases v with
   | one c=>
    cases c with
    | ref s off=>
     obtain ⟨⟨cs,hb⟩,he⟩:=h1.ref
     exact r.value hd (run _ _ he) h rfl fun _=>⟨⟨cs,hb⟩,by rw [Nat.add_assoc]⟩
    | _=>exact h.of_fail.elim
   | im cs=>
    obtain ⟨b,off,he,hc⟩:=h1.im
    refine r.value hd (run _ _ he) h rfl fun _=>⟨b,off+f.offset,rfl,fun i c hi=>?_⟩
    rw [getElem?_drop'] at hi
    have:=hc _ c hi
    rwa [← Nat.add_assoc] at this
   | _=>exact h.of_fail.elim
 ·exact h.of_fail.elim
theorem aF2 {cs l:List (CV U.τ)} {off n:Nat} (h:aj2 cs off n=some l):off+n≤cs.length∧l=(cs.drop off).take n:=by
 unfold aj2 at h
 cases hb:Nat.ble (off+n) cs.length with
 | false=>rw [hb] at h; cases h
 | true=>
  rw [hb] at h
  injection h with h
  exact ⟨Nat.le_of_ble_eq_true hb,h.symm⟩
theorem dM9 {t:TypeId} {d:TypeDesc} (ht:P.underlying t=some d) (h:ce0 d=true) (hz:1≤P.cellsOf t) (us:Array Value) (off:Nat) (w:World) :
  (part t us off).run P w=.ok (.agg (us.extract off (off+P.cellsOf t))) w:=by
 simp only [part,Sem.run_bind,aB3 ht,h,Result.andThen_ok,if_true,run_sizeOf hz]
 rfl
theorem cr0 {t:TypeId} {cs:List (CV U.τ)} {off:Nat} {v:AV U.τ} (h:al8 P t cs off=some v) (hz:1≤P.cellsOf t) {us:Array Value} (hs:us.size=cs.length) (hc:∀ (j:Nat) c,cs[j]?=some c→∃ y,us[j]?=some y∧PC P U w G.I c y) :
  v.owner=false∧∃ u,(part t us off).run P w=.ok u w∧∀ t',ac9 P U G σ w t' v u:=by
 have ag:∀ d,P.underlying t=some d→ce0 d=true→(aj2 cs off (P.cellsOf t)).map (fun l=>AV.agg (l.map CV.plain))=some v→v.owner=false∧∃ u,(part t us off).run P w=.ok u w∧∀ t',ac9 P U G σ w t' v u:=by
  intro d hu hr h
  cases hl:aj2 cs off (P.cellsOf t) with
  | none=>rw [hl] at h; cases h
  | some l=>
   rw [hl] at h
   injection h with h; subst h
   obtain ⟨h1,rfl⟩:=aF2 hl
   refine ⟨rfl,_,dM9 hu hr hz us off w,fun _=>⟨_,rfl,?_,fun j c hj=>?_⟩⟩
   ·simp; omega
   ·rw [List.getElem?_map] at hj
    cases hx:(List.take (P.cellsOf t) (List.drop off cs))[j]? with
    | none=>rw [hx] at hj; cases hj
    | some c0=>
     rw [hx] at hj
     injection hj with hj; subst hj
     rw [List.getElem?_take] at hx
     split at hx
     ·rename_i hlt
      rw [getElem?_drop'] at hx
      obtain ⟨y,hy,hpc⟩:=hc _ _ hx
      refine ⟨y,?_,hpc.plain⟩
      rw [Array.getElem?_extract]
      have:off+j < us.size:=(Array.getElem?_eq_some_iff.1 hy).1
      rw [if_pos (by omega)]
      exact hy
     ·cases hx
 have one:∀ d,P.underlying t=some d→ce0 d=false→(match cs[off]? with | some c=>some (AV.one c) | none=>none)=some v→v.owner=false∧∃ u,(part t us off).run P w=.ok u w∧∀ t',ac9 P U G σ w t' v u:=by
  intro d hu hr h
  cases hx:cs[off]? with
  | none=>rw [hx] at h; cases h
  | some c=>
   rw [hx] at h
   injection h with h; subst h
   obtain ⟨y,hy,hpc⟩:=hc _ _ hx
   exact ⟨rfl,y,aQ7 hu hr us off hy w,fun _=>ac9.of_pc hpc⟩
 unfold al8 at h
 split at h
 ·rename_i hu; exact ag _ hu rfl h
 ·rename_i hu; exact ag _ hu rfl h
 ·rename_i d h1 h2 hu
  exact one d hu (by cases d <;> first | rfl | (exact absurd hu (by simp_all))) h
 ·cases h
theorem eA1 (r:R P U N L0 G0 w0 G σ a w) (hd:∀ d,o.dst=some d→d < N) {t:TypeId} {x:Operand} {j:Nat} (ho:o.op=.field t x j) {rd:List Nat} {ws:List (Nat × AV U.τ)} (h:aa5 P U σ (ac3 P adv o) rd ws) :
  ae5 P U N L0 G0 w0 σ o a w ws:=by
 simp only [ac3,ho] at h
 split at h
 ·rename_i fs hu
  cases hj:fs[j]? with
  | none=>rw [hj] at h; exact h.of_fail.elim
  | some f=>
   rw [hj] at h
   obtain ⟨hz,h⟩:=aa5.of_cond h
   obtain ⟨v,_,h1,h⟩:=r.opd h
   cases v with
   | agg cs=>
    obtain ⟨us,he,hs,hc⟩:=h1.agg
    simp only at h
    cases hp:al8 P f.type cs f.offset with
    | none=>rw [hp] at h; exact h.of_fail.elim
    | some v=>
     rw [hp] at h
     obtain ⟨k1,u,k2,k3⟩:=cr0 (σ:=σ) (G:=G) hp (Nat.le_of_ble_eq_true hz) hs hc
     exact r.value hd (by simp [execOp,ho,he,Instr.field,run_underlying hu,hj,asAgg,k2]) h k1 k3
   | _=>exact h.of_fail.elim
 ·exact h.of_fail.elim
theorem dN0 {t:TypeId} (hb:dK5 P t=true):P.underlying t=some .string:=by
 unfold dK5 at hb
 split at hb
 ·assumption
 ·cases hb
theorem dh7 (y:UInt8):IntKind.u8.has (y.toNat:Int):=by
 unfold IntKind.has IntKind.min IntKind.max
 have:=y.toNat_lt
 simp [IntKind.bits,IntKind.signed]; omega
theorem ep4 {s:List UInt8} {n:Nat} {y:UInt8} (h:s[n]?=some y):(⟨⟨s⟩⟩:ByteArray)[n]?=some y:=by
 obtain ⟨hlt,h2⟩:=List.getElem?_eq_some_iff.1 h
 have:n < (⟨⟨s⟩⟩:ByteArray).size:=hlt
 rw [getElem?_pos (⟨⟨s⟩⟩:ByteArray) n this]
 exact congrArg some h2
theorem bz4 {i:Int} {k:Nat→ac6 U}:∀ (n j:Nat) {rd:List Nat} {ws:List (Nat × AV U.τ)},aa5 P U σ (cj6 i n k j) rd ws→∃ m,m < n∧i=((j+m:Nat):Int)∧aa5 P U σ (k (j+m)) rd ws
 | 0,j,rd,ws,h=>h.of_fail.elim
 | n+1,j,rd,ws,h=>by
  rcases h.of_ite with ⟨h1,h⟩ | ⟨h1,h⟩
  ·exact ⟨0,by omega,by simpa using h1,h⟩
  ·obtain ⟨m,h2,h3,h4⟩:=bz4 n (j+1) h
   exact ⟨m+1,by omega,by rw [h3]; omega,by rw [show j+(m+1)=j+1+m by omega]; exact h4⟩
theorem dz3:∀ (l:List Int) (j:Nat) (i:Int),(j:Int)≤i→i < j+l.length→l[(i - j).toNat]?=some (eg5 i l j)
 | [],j,i,h1,h2=>by simp at h2; omega
 | [x],j,i,h1,h2=>by
  have:(i - j).toNat=0:=by simp at h2; omega
  rw [this]; rfl
 | x::y::r,j,i,h1,h2=>by
  by_cases h:i=(j:Int)
  ·have e:(i - j).toNat=0:=by omega
   rw [e]
   show some x=some (ite (i=(j:Int)) x _)
   rw [if_pos h]
  ·have e:(i - j).toNat=(i - ((j+1:Nat):Int)).toNat+1:=by omega
   have:=dz3 (y::r) (j+1) i (by omega) (by simp only [List.length_cons] at h2 ⊢; omega)
   rw [e,List.getElem?_cons_succ,this]
   show _=some (ite (i=(j:Int)) x _)
   rw [if_neg h]
theorem dz4:∀ (l:List (List UInt8)) (j:Nat) (i:Int),(j:Int)≤i→i < j+l.length→l[(i - j).toNat]?=some (eg6 i l j)
 | [],j,i,h1,h2=>by simp at h2; omega
 | [x],j,i,h1,h2=>by
  have:(i - j).toNat=0:=by simp at h2; omega
  rw [this]; rfl
 | x::y::r,j,i,h1,h2=>by
  by_cases h:i=(j:Int)
  ·have e:(i - j).toNat=0:=by omega
   rw [e]
   show some x=some (ite (i=(j:Int)) x _)
   rw [if_pos h]
  ·have e:(i - j).toNat=(i - ((j+1:Nat):Int)).toNat+1:=by omega
   have:=dz4 (y::r) (j+1) i (by omega) (by simp only [List.length_cons] at h2 ⊢; omega)
   rw [e,List.getElem?_cons_succ,this]
   show _=some (ite (i=(j:Int)) x _)
   rw [if_neg h]
theorem dz5 {k:IntKind}:∀ (l:List (CV U.τ)) (ns:List Int),cE9 k l=some ns→l=ns.map (CV.int k)
 | [],ns,h=>by injection h with h; subst h; rfl
 | c::r,ns,h=>by
  cases c with
  | int j n=>
   unfold cE9 at h
   cases hd:decide (j=k) with
   | false=>rw [hd] at h; cases h
   | true=>
    rw [hd,cond_true] at h
    have hd:=of_decide_eq_true hd
    subst hd
    cases hr:cE9 j r with
    | none=>rw [hr] at h; cases h
    | some m=>rw [hr] at h; injection h with h; subst h; rw [dz5 r m hr]; rfl
  | _=>cases h
theorem dz6:∀ (l:List (CV U.τ)) (ns:List (List UInt8)),cF0 l=some ns→l=ns.map CV.str
 | [],ns,h=>by injection h with h; subst h; rfl
 | c::r,ns,h=>by
  cases c with
  | str n=>
   unfold cF0 at h
   cases hr:cF0 r with
   | none=>rw [hr] at h; cases h
   | some m=>rw [hr] at h; injection h with h; subst h; rw [dz6 r m hr]; rfl
  | _=>cases h
theorem dh8 {i:Int} {l:List (CV U.τ)} {c:CV U.τ} (h:cF1 i l=some c) (h0:0≤i) (h1:i < l.length):l[i.toNat]?=some c:=by
 unfold cF1 at h
 split at h
 ·rename_i k n r
  split at h
  ·rename_i ns hns
   injection h with h; subst h
   have e:=dz5 r ns hns
   subst e
   have:=dz3 (n::ns) 0 i (by omega) (by simpa using h1)
   rw [show i - ((0:Nat):Int)=i by omega] at this
   rw [show CV.int k n::ns.map (CV.int k)=((n::ns).map (CV.int (τ:=U.τ) k)) from rfl,List.getElem?_map,this]; rfl
  ·cases h
 ·rename_i s r
  split at h
  ·rename_i ns hns
   injection h with h; subst h
   have e:=dz6 r ns hns
   subst e
   have:=dz4 (s::ns) 0 i (by omega) (by simpa using h1)
   rw [show i - ((0:Nat):Int)=i by omega] at this
   rw [show CV.str s::ns.map CV.str=((s::ns).map (CV.str (τ:=U.τ))) from rfl,List.getElem?_map,this]; rfl
  ·cases h
 ·cases h
theorem dz7 {cs:List (CV U.τ)} {sz:Nat}:∀ (m p:Nat) (l:List (CV U.τ)),dK4 cs sz m p=some l→l.length=m∧∀ q,q < m→l[q]?=cs[p+q * sz]?
 | 0,p,l,h=>by injection h with h; subst h; exact ⟨rfl,fun q hq=>absurd hq (by omega)⟩
 | m+1,p,l,h=>by
  unfold dK4 at h
  split at h
  ·rename_i c r hc hr
   injection h with h; subst h
   obtain ⟨h1,h2⟩:=dz7 m (p+sz) r hr
   refine ⟨by simp [h1],fun q hq=>?_⟩
   cases q with
   | zero=>simp [hc]
   | succ q=>
    rw [List.getElem?_cons_succ,h2 q (by omega)]
    congr 1
    rw [Nat.add_mul,Nat.one_mul]; omega
  ·cases h
theorem cw8 {i:Int} {cs:List (CV U.τ)} {sz m:Nat} (h0:0≤i) (h1:i < m):∀ (n c:Nat) (l:List (CV U.τ)),bY6 i cs sz m n c=some l→l.length=n∧∀ q,q < n→∃ x,l[q]?=some x∧cs[i.toNat * sz+(c+q)]?=some x
 | 0,c,l,h=>by injection h with h; subst h; exact ⟨rfl,fun q hq=>absurd hq (by omega)⟩
 | n+1,c,l,h=>by
  unfold bY6 at h
  split at h
  ·rename_i col r hc hr
   split at h
   ·rename_i x hx
    injection h with h; subst h
    obtain ⟨k1,k2⟩:=dz7 m c col hc
    obtain ⟨k3,k4⟩:=cw8 h0 h1 n (c+1) r hr
    refine ⟨by simp [k3],fun q hq=>?_⟩
    cases q with
    | zero=>
     have:=dh8 hx h0 (by rw [k1]; exact h1)
     rw [k2 _ (by omega)] at this
     exact ⟨x,rfl,by rw [show i.toNat * sz+(c+0)=c+i.toNat * sz by omega]; exact this⟩
    | succ q=>
     obtain ⟨y,g1,g2⟩:=k4 q (by omega)
     exact ⟨y,g1,by rw [show c+(q+1)=c+1+q by omega]; exact g2⟩
   ·cases h
  ·cases h
theorem dN1 {e:TypeId} {cs l:List (CV U.τ)} {off:Nat} (hz:1≤P.cellsOf e) (hl:l.length=P.cellsOf e) (h:∀ q,q < P.cellsOf e→∃ x,l[q]?=some x∧cs[off+q]?=some x):al8 P e l 0=al8 P e cs off:=by
 have hlen:off+P.cellsOf e≤cs.length:=by
  obtain ⟨x,_,h2⟩:=h (P.cellsOf e - 1) (by omega)
  have:=(List.getElem?_eq_some_iff.1 h2).1
  omega
 have hd:(cs.drop off).take (P.cellsOf e)=l:=by
  apply List.ext_getElem?
  intro q
  rw [List.getElem?_take,List.getElem?_drop]
  split
  ·rename_i hq
   obtain ⟨x,h1,h2⟩:=h q hq
   rw [h1,h2]
  ·rw [List.getElem?_eq_none (by omega)]
 have ht:aj2 l 0 (P.cellsOf e)=aj2 cs off (P.cellsOf e):=by
  unfold aj2
  rw [show Nat.ble (0+P.cellsOf e) l.length=true from Nat.ble_eq_true_of_le (by omega),show Nat.ble (off+P.cellsOf e) cs.length=true from Nat.ble_eq_true_of_le hlen,hd,List.drop_zero,List.take_of_length_le (by omega)]
 have h0:l[0]?=cs[off]?:=by
  obtain ⟨x,h1,h2⟩:=h 0 (by omega)
  rw [h1,← h2,Nat.add_zero]
 unfold al8
 rw [ht,h0]
theorem eA2 (r:R P U N L0 G0 w0 G σ a w) (hd:∀ d,o.dst=some d→d < N) {t:TypeId} {x i:Operand} (ho:o.op=.index t x i) {rd:List Nat} {ws:List (Nat × AV U.τ)} (h:aa5 P U σ (ac3 P adv o) rd ws) :
  ae5 P U N L0 G0 w0 σ o a w ws:=by
 simp only [ac3,ho] at h
 obtain ⟨v,_,h1,h⟩:=r.opd h
 obtain ⟨k,n,_,he,hk,h⟩:=r.int h
 cases v with
 | one c=>
  cases c with
  | str s=>
   obtain ⟨hb,h⟩:=aa5.of_cond h
   obtain ⟨hn,h⟩:=h.of_guard
   obtain ⟨y,hy,h⟩:=h.of_opt
   have hu:=dN0 hb
   refine r.valuePC hd (u:=.int .u8 y.toNat) ?_ h (.int _ _ (dh7 y))
   have hy':(⟨⟨s⟩⟩:ByteArray)[n.toNat]?=some y:=ep4 hy
   simp [execOp,ho,h1.str.1,he,Instr.index,asIntOf,run_underlying hu,hn,hy']
  | _=>exact h.of_fail.elim
 | agg cs=>
  simp only at h
  split at h
  ·rename_i m e hu
   obtain ⟨hz,h⟩:=aa5.of_cond h
   split at h
   ·rename_i l hpl
    obtain ⟨hlt,h⟩:=h.of_guard
    cases hti:eI9 i with
    | false=>rw [hti] at hpl; cases hpl
    | true=>
    rw [hti,cond_true] at hpl
    obtain ⟨us,hus,hs,hc⟩:=h1.agg
    obtain ⟨g1,g2⟩:=cw8 hlt.1 hlt.2 _ 0 l hpl
    rw [dN1 (off:=n.toNat * P.cellsOf e) (Nat.le_of_ble_eq_true hz) g1 (fun q hq=>by
     obtain ⟨x,g3,g4⟩:=g2 q hq
     exact ⟨x,g3,by rw [Nat.zero_add] at g4; exact g4⟩)] at h
    cases hp:al8 P e cs (n.toNat * P.cellsOf e) with
    | none=>rw [hp] at h; exact h.of_fail.elim
    | some v=>
     rw [hp] at h
     obtain ⟨k1,u,k2,k3⟩:=cr0 (σ:=σ) (G:=G) hp (Nat.le_of_ble_eq_true hz) hs hc
     refine r.value hd ?_ h k1 k3
     simp [execOp,ho,hus,he,Instr.index,asIntOf,run_underlying hu,hlt,run_sizeOf (Nat.le_of_ble_eq_true hz),k2]
   ·obtain ⟨q,hq,hi,h⟩:=bz4 m 0 h
    rw [Nat.zero_add] at hi h
    obtain ⟨us,hus,hs,hc⟩:=h1.agg
    cases hp:al8 P e cs (q * P.cellsOf e) with
    | none=>rw [hp] at h; exact h.of_fail.elim
    | some v=>
     rw [hp] at h
     obtain ⟨k1,u,k2,k3⟩:=cr0 (σ:=σ) (G:=G) hp (Nat.le_of_ble_eq_true hz) hs hc
     have hlt:(0:Int)≤n∧n < m:=by omega
     have hqn:n.toNat=q:=by omega
     refine r.value hd ?_ h k1 k3
     simp [execOp,ho,hus,he,Instr.index,asIntOf,run_underlying hu,hlt,hqn,run_sizeOf (Nat.le_of_ble_eq_true hz),k2]
  ·exact h.of_fail.elim
 | _=>exact h.of_fail.elim
theorem aU4 {t:TypeId} {e:Nat} {k:ac6 U} {rd:List Nat} {ws:List (Nat × AV U.τ)} (h:aa5 P U σ (be4 P t e k) rd ws):P.underlying t=some (.slice e)∧1≤P.cellsOf e∧aa5 P U σ k rd ws:=by
 unfold be4 at h
 split at h
 ·rename_i e' hu
  obtain ⟨hb,h2⟩:=aa5.of_cond h
  simp only [Bool.and_eq_true] at hb
  have he:e'=e:=Nat.eq_of_beq_eq_true hb.1
  exact ⟨by rw [hu,he],Nat.le_of_ble_eq_true hb.2,h2⟩
 ·exact h.of_fail.elim
theorem Opd.slice {x:Operand} {c:CV U.τ} {u:Value} {e:Nat} {css:List (List (CV U.τ))} {f:Fl} (h:Opd (P:=P) G σ w x (.one c) u) (hc:cont c=some (e,css,f)) :
  (css.length:Int)≤ad0∧((css=[]∧u=.slice none 0 0)∨(f=.ro∧css=[]∧∃ p cap,u=.slice (some p) 0 cap)∨∃ b off cap,u=.slice (some ⟨b,off,none⟩) css.length cap∧css.length≤cap∧(f=.tight→cap=css.length)∧bh0 P U w G.I b off (P.cellsOf e) css):=by
 obtain ⟨t,h1,_⟩:=h.ok
 have h2:ae3 P U w G.I G.who (t,none) c u:=by
  cases c <;> first | (simp [cont] at hc; done) | exact h1
 rcases h2 with h2 | ⟨e',css',h3,h4,h5⟩
 ·exact (h2.slice hc).2
 ·rw [hc] at h3
  simp only [Option.some.injEq,Prod.mk.injEq] at h3
  obtain ⟨rfl,rfl,rfl⟩:=h3
  refine ⟨h4,?_⟩
  rcases h5 with h5 | ⟨b,off,cap,h5,h6,h7,_⟩
  ·exact .inl h5
  ·exact .inr (.inr ⟨b,off,cap,h5,h6,by simp,h7⟩)
theorem ce1 {t:TypeId} {e:Nat} (hu:P.underlying t=some (.slice e)) (hz:1≤P.cellsOf e) (b off len cap:Nat) (k:IntKind) (n:Int) (h0:0≤n) (h1:n < len) (w:World) :
  (Instr.indexAt t (.slice (some ⟨b,off,none⟩) len cap) (.int k n)).run P w=.ok (.pointer (some ⟨b,off+n.toNat * P.cellsOf e,none⟩)) w:=by
 simp [Instr.indexAt,asIntOf,run_underlying hu,h0,h1,run_sizeOf hz,Addr.add_none]
theorem dN2 (r:R P U N L0 G0 w0 G σ a w) (hd:∀ d,o.dst=some d→d < N) {t:TypeId} {x i:Operand} (ho:o.op=.indexAddr t x i) {rd:List Nat} {ws:List (Nat × AV U.τ)} (h:aa5 P U σ (ac3 P adv o) rd ws) :
  ae5 P U N L0 G0 w0 σ o a w ws:=by
 simp only [ac3,ho] at h
 obtain ⟨v,_,h1,h⟩:=r.opd h
 obtain ⟨k,n,_,he,hk,h⟩:=r.int h
 have im:∀ (c:CV U.τ) (e:Nat) (css:List (List (CV U.τ))) (f:Fl) (cs:List (CV U.τ)) (rd':List Nat),v=.one c→cont c=some (e,css,f)→P.underlying t=some (.slice e)→1≤P.cellsOf e→0≤n→css[n.toNat]?=some cs→
   aa5 P U σ (wr o.dst (.im cs)) rd' ws→ae5 P U N L0 G0 w0 σ o a w ws:=by
  intro c e css f cs rd' hv hc hu hz hn hi hw
  subst hv
  have hlt:n.toNat < css.length:=(List.getElem?_eq_some_iff.1 hi).1
  obtain ⟨_,⟨hnil,_⟩ | ⟨_,hnil,_⟩ | ⟨b,off,cap,hu',_,_,hco⟩⟩:=h1.slice hc
  ·rw [hnil] at hlt; simp at hlt
  ·rw [hnil] at hlt; simp at hlt
  ·refine r.value hd (u:=.pointer (some ⟨b,off+n.toNat * P.cellsOf e,none⟩)) ?_ hw rfl fun _=>⟨b,off+n.toNat * P.cellsOf e,rfl,fun j y hj=>⟨hco.imm _ _ _ _ hi hj,hco.cell _ _ _ _ hi hj⟩⟩
   simp [execOp,ho,hu',he,ce1 hu hz b off css.length cap k n hn (by omega) w]
 cases v with
 | one c=>
  cases c with
  | sl e xs f=>
   obtain ⟨hu,hz,h⟩:=aU4 h
   obtain ⟨hn,h⟩:=h.of_guard
   obtain ⟨y,hy,h⟩:=h.of_opt
   exact im _ e (xs.map (U.enc e)) f (U.enc e y) _ rfl rfl hu hz hn (by rw [List.getElem?_map,hy]; rfl) h
  | bs e s f=>
   obtain ⟨hu,hz,h⟩:=aU4 h
   obtain ⟨hn,h⟩:=h.of_guard
   obtain ⟨y,hy,h⟩:=h.of_opt
   exact im _ e (s.map fun b=>[.int .u8 b.toNat]) f _ _ rfl rfl hu hz hn (by rw [List.getElem?_map,hy]; rfl) h
  | ref s off=>
   obtain ⟨⟨cs,hb⟩,hp⟩:=h1.ref
   simp only at h
   split at h
   ·rename_i m e hu
    cases hpt:eg8 P e i with
    | true=>
     rw [hpt,cond_true] at h
     obtain ⟨hlt,h⟩:=h.of_guard
     have hz1:P.cellsOf e=1:=by
      unfold eg8 at hpt
      split at hpt
      ·split at hpt
       ·exact Nat.eq_of_beq_eq_true hpt
       ·exact Nat.eq_of_beq_eq_true hpt
       ·cases hpt
      ·cases hpt
     refine r.value hd (u:=.pointer (some ⟨(G.loc s).1,(G.loc s).2+(off+n.toNat),none⟩)) ?_ h rfl fun _=>⟨⟨cs,hb⟩,hlt,rfl⟩
     simp [execOp,ho,hp,he,Instr.indexAt,asIntOf,run_underlying hu,Instr.sureAddr,hlt,run_sizeOf (P:=P) (t:=e) (by omega),hz1,Addr.add_none,Nat.add_assoc]
    | false=>
    rw [hpt,cond_false] at h
    obtain ⟨hz,h⟩:=aa5.of_cond h
    obtain ⟨q,hq,hi,h⟩:=bz4 m 0 h
    rw [Nat.zero_add] at hi h
    have hz:=Nat.le_of_ble_eq_true hz
    have hlt:(0:Int)≤n∧n < m:=by omega
    have hqn:n.toNat=q:=by omega
    refine r.value hd (u:=.pointer (some ⟨(G.loc s).1,(G.loc s).2+(off+q * P.cellsOf e),none⟩)) ?_ h rfl fun _=>⟨⟨cs,hb⟩,rfl⟩
    simp [execOp,ho,hp,he,Instr.indexAt,asIntOf,run_underlying hu,Instr.sureAddr,hlt,hqn,run_sizeOf hz,Addr.add_none,Nat.add_assoc]
   ·exact h.of_fail.elim
  | sref s=>
   obtain ⟨e0,y0,q0,cap,hs,hu',hl,_⟩:=h1.sref
   obtain ⟨_,h⟩:=h.of_read
   rw [hs] at h
   obtain ⟨hu,hz,h⟩:=aU4 h
   obtain ⟨hn,h⟩:=h.of_guard
   have hblk:=r.slots s
   rw [hs] at hblk
   have h1sz:=hblk.2.sz
   refine r.value hd (u:=.pointer (some ⟨(G.loc s).1,(G.loc s).2+n.toNat,none⟩)) ?_ h rfl fun _=>⟨⟨_,_,_,hs⟩,rfl⟩
   simp [execOp,ho,hu',he,ce1 hu hz (G.loc s).1 (G.loc s).2 y0.length cap k n hn.1 hn.2 w,h1sz]
  | prow s os=>
   obtain ⟨hb,_,b,off,hu',hc⟩:=h1.prow
   simp only at h
   split at h
   ·rename_i e hu
    obtain ⟨hz,h⟩:=aa5.of_cond h
    obtain ⟨q,hq,hi,h⟩:=bz4 _ 0 h
    rw [Nat.zero_add] at hi h
    have hz:=Nat.eq_of_beq_eq_true hz
    have hqn:n.toNat=q:=by omega
    split at h
    ·rename_i o1 ho1
     obtain ⟨k1,k2⟩:=hc q o1 ho1
     refine r.value hd (u:=.pointer (some ⟨b,off+q,none⟩)) ?_ h rfl fun _=>⟨hb,b,off+q,rfl,k1,k2⟩
     simp [execOp,ho,hu',he,ce1 hu (by omega) b off os.length os.length k n (by omega) (by omega) w,hz,hqn]
    ·exact h.of_fail.elim
   ·exact h.of_fail.elim
  | _=>exact h.of_fail.elim
 | im cs=>
  obtain ⟨b,off,hp,hc⟩:=h1.im
  simp only at h
  split at h
  ·rename_i m e hu
   obtain ⟨hz,h⟩:=aa5.of_cond h
   obtain ⟨q,hq,hi,h⟩:=bz4 m 0 h
   rw [Nat.zero_add] at hi h
   have hz:=Nat.le_of_ble_eq_true hz
   have hlt:(0:Int)≤n∧n < m:=by omega
   have hqn:n.toNat=q:=by omega
   refine r.value hd (u:=.pointer (some ⟨b,off+q * P.cellsOf e,none⟩)) ?_ h rfl fun _=>⟨b,_,rfl,fun j c hj=>?_⟩
   ·simp [execOp,ho,hp,he,Instr.indexAt,asIntOf,run_underlying hu,Instr.sureAddr,hlt,hqn,run_sizeOf hz,Addr.add_none]
   ·rw [getElem?_drop'] at hj
    have:=hc _ c hj
    rwa [← Nat.add_assoc] at this
  ·exact h.of_fail.elim
 | _=>exact h.of_fail.elim
end
end Go.VI
namespace Go.VI
open Go
section
variable {P:Program} {U:ad6} {N:Nat} {L0:Nat→Nat} {G0:ab7} {w0:World} {G:ab7} {σ:ac0 U} {a:Act} {w:World} {o:Oper} {adv:Adv}
theorem dh9 {α:Type} (s:List α) (l h:Option Nat):cut s l h=(s.take (h.getD s.length)).drop (l.getD 0):=by
 cases l <;> cases h <;> simp [cut]
theorem cr1 (r:R P U N L0 G0 w0 G σ a w) {n:Nat} {lo hi:Option Operand} {k:Option Nat→Option Nat→ac6 U} {rd:List Nat} {ws:List (Nat × AV U.τ)} (h:aa5 P U σ (cR5 P n lo hi k) rd ws) :
  ∃ l q rd',aa5 P U σ (k l q) rd' ws∧l.getD 0≤q.getD n∧q.getD n≤n∧
   ∀ isSlice cap,n≤cap→(Instr.sliceBounds isSlice n cap (lo.map a.eval) (hi.map a.eval) none).run P w=.ok (l.getD 0,q.getD n,cap) w:=by
 cases lo with
 | none=>
  cases hi with
  | none=>exact ⟨none,none,_,h,by simp,by simp,fun isSlice cap hc=>by simp [Instr.sliceBounds]⟩
  | some b=>
   obtain ⟨kb,hb,_,eb,_,h⟩:=r.int h
   obtain ⟨hp,h⟩:=h.of_guard
   refine ⟨_,_,_,h,by simp,by simp; omega,fun isSlice cap hc=>?_⟩
   simp [Instr.sliceBounds,eb,run_sliceBound (P:=P) w kb hb cap _ hp.1 (by omega)]
 | some x=>
  cases hi with
  | none=>
   obtain ⟨kx,hx,_,ex,_,h⟩:=r.int h
   obtain ⟨hp,h⟩:=h.of_guard
   refine ⟨_,_,_,h,by simp; omega,by simp,fun isSlice cap hc=>?_⟩
   simp [Instr.sliceBounds,ex,run_sliceBound (P:=P) w kx hx n _ hp.1 hp.2]
  | some b=>
   obtain ⟨kx,hx,_,ex,_,h⟩:=r.int h
   obtain ⟨kb,hb,_,eb,_,h⟩:=r.int h
   obtain ⟨hp,h⟩:=h.of_guard
   refine ⟨_,_,_,h,by simp; omega,by simp; omega,fun isSlice cap hc=>?_⟩
   simp [Instr.sliceBounds,ex,eb,run_sliceBound (P:=P) w kb hb cap _ (by omega) (by omega),run_sliceBound (P:=P) w kx hx hb.toNat _ hp.1 (by omega)]
theorem cw9 (s:List UInt8) (l h:Nat):(⟨⟨s⟩⟩:ByteArray).extract l h=⟨⟨(s.take h).drop l⟩⟩:=by
 apply ByteArray.ext
 apply Array.ext'
 simp [ByteArray.data_extract,List.drop_take]
theorem bh0.cut {I:Nat→Nat→Prop} {b off sz:Nat} {css:List (List (CV U.τ))} (h:bh0 P U w I b off sz css) (l q:Nat):bh0 P U w I b (off+l * sz) sz ((css.take q).drop l):=by
 have at_:∀ (i:Nat) cs,((css.take q).drop l)[i]?=some cs→css[l+i]?=some cs:=by
  intro i cs hi
  rw [getElem?_drop',List.getElem?_take] at hi
  split at hi
  ·exact hi
  ·cases hi
 have sum:∀ i j,off+l * sz+i * sz+j=off+(l+i) * sz+j:=fun i j=>by rw [Nat.add_mul]; omega
 refine ⟨fun i cs hi=>h.len _ _ (at_ i cs hi),fun i cs j x hi hj=>?_,fun i cs j x hi hj=>?_⟩
 ·rw [sum]; exact h.imm _ _ _ _ (at_ i cs hi) hj
 ·rw [sum]; exact h.cell _ _ _ _ (at_ i cs hi) hj
theorem eA3 (r:R P U N L0 G0 w0 G σ a w) (hd:∀ d,o.dst=some d→d < N) {t:TypeId} {x:Operand} {lo hi mx:Option Operand} (ho:o.op=.slice t x lo hi mx) {rd:List Nat} {ws:List (Nat × AV U.τ)} (h:aa5 P U σ (ac3 P adv o) rd ws) :
  ae5 P U N L0 G0 w0 σ o a w ws:=by
 simp only [ac3,ho] at h
 cases mx with
 | some _=>exact h.of_fail.elim
 | none=>
  obtain ⟨v,_,h1,h⟩:=r.opd h
  have sl:∀ (c c':CV U.τ) (e:Nat) (css:List (List (CV U.τ))) (f:Fl) (l q:Option Nat) (rd':List Nat),v=.one c→cont c=some (e,css,f)→cont c'=some (e,(css.take (q.getD css.length)).drop (l.getD 0),.ro)→P.underlying t=some (.slice e)→1≤P.cellsOf e→
    l.getD 0≤q.getD css.length→q.getD css.length≤css.length→
    (∀ isSlice cap,css.length≤cap→(Instr.sliceBounds isSlice css.length cap (lo.map a.eval) (hi.map a.eval) none).run P w=.ok (l.getD 0,q.getD css.length,cap) w)→
    aa5 P U σ (wr o.dst (.one c')) rd' ws→ae5 P U N L0 G0 w0 σ o a w ws:=by
   intro c c' e css f l q rd' hv hc hc' hu hz g1 g2 g3 hw
   subst hv
   have hlen:((css.take (q.getD css.length)).drop (l.getD 0)).length=q.getD css.length - l.getD 0:=by
    rw [List.length_drop,List.length_take]; omega
   obtain ⟨hm,⟨hnil,hu'⟩ | ⟨_,hnil,p,cap,hu'⟩ | ⟨b,off,cap,hu',hcap,_,hco⟩⟩:=h1.slice hc
   ·have hl0:css.length=0:=by rw [hnil]; rfl
    have hq0:q.getD css.length=0:=by omega
    have hl1:l.getD 0=0:=by omega
    have hn:(css.take (q.getD css.length)).drop (l.getD 0)=[]:=List.length_eq_zero_iff.1 (by omega)
    rw [hn] at hc'
    refine r.valuePC hd (u:=.slice none 0 0) ?_ hw (.nil _ _ _ hc' (by simp))
    have:=g3 true 0 (by omega)
    rw [hl0] at this hq0
    simp [execOp,ho,hu',Instr.sliceAt,Instr.slice,run_underlying hu,this,run_sizeOf hz,hq0,hl1]
   ·have hl0:css.length=0:=by rw [hnil]; rfl
    have hq0:q.getD css.length=0:=by omega
    have hl1:l.getD 0=0:=by omega
    have hn:(css.take (q.getD css.length)).drop (l.getD 0)=[]:=List.length_eq_zero_iff.1 (by omega)
    rw [hn] at hc'
    refine r.valuePC hd (u:=.slice (some p) 0 cap) ?_ hw (.emp _ _ _ _ hc')
    have:=g3 true cap (by omega)
    rw [hl0] at this hq0
    simp [execOp,ho,hu',Instr.sliceAt,Instr.slice,run_underlying hu,this,run_sizeOf hz,hq0,hl1,Addr.add]
   ·have:=g3 true cap hcap
    have hrun:(execOp a.eval o).run P w=.ok (.value (.slice (if cap=l.getD 0 then some ⟨b,off,none⟩ else some ⟨b,off+l.getD 0 * P.cellsOf e,none⟩) (q.getD css.length - l.getD 0) (cap - l.getD 0))) w:=by
     simp [execOp,ho,hu',Instr.sliceAt,Instr.slice,run_underlying hu,this,run_sizeOf hz,Addr.add_none]
    by_cases hcl:cap=l.getD 0
    ·have hn:(css.take (q.getD css.length)).drop (l.getD 0)=[]:=List.length_eq_zero_iff.1 (by omega)
     rw [if_pos hcl] at hrun
     refine r.valuePC hd hrun hw ?_
     have:=PC.of_cont (P:=P) (U:=U) (w:=w) (I:=G.I) (b:=b) (off:=off) (cap:=cap - l.getD 0) hc' (by simp) (by rw [hlen]; omega) (by simp) (by rw [hlen]; omega) (by rw [hn]; exact ⟨fun _ _ hh=>by simp at hh,fun _ _ _ _ hh=>by simp at hh,fun _ _ _ _ hh=>by simp at hh⟩)
     rwa [hlen] at this
    ·rw [if_neg hcl] at hrun
     refine r.valuePC hd hrun hw ?_
     have:=PC.of_cont (P:=P) (U:=U) (w:=w) (I:=G.I) (b:=b) (off:=off+l.getD 0 * P.cellsOf e) (cap:=cap - l.getD 0) hc' (by simp) (by rw [hlen]; omega) (by simp) (by rw [hlen]; omega) (hco.cut _ _)
     rwa [hlen] at this
  cases v with
  | one c=>
   cases c with
   | str s=>
    obtain ⟨hb,h⟩:=aa5.of_cond h
    obtain ⟨l,q,_,hw,g1,g2,g3⟩:=cr1 r h
    have hu:=dN0 hb
    have hsz:(⟨⟨s⟩⟩:ByteArray).size=s.length:=rfl
    refine r.valuePC hd (u:=.string ⟨⟨cut s l q⟩⟩) ?_ hw (.str _ ?_)
    ·have:=g3 false s.length (Nat.le_refl _)
     simp [execOp,ho,h1.str.1,Instr.sliceAt,Instr.slice,run_underlying hu,hsz,this,cw9,dh9]
    ·have:=h1.str.2
     rw [dh9,List.length_drop,List.length_take]; omega
   | sl e xs f=>
    obtain ⟨hu,hz,h⟩:=aU4 h
    obtain ⟨l,q,_,hw,g1,g2,g3⟩:=cr1 r h
    exact sl _ _ e (xs.map (U.enc e)) f l q _ rfl rfl (by simp [cont,dh9,List.map_drop,List.map_take]) hu hz (by simpa using g1) (by simpa using g2) (by simpa using g3) hw
   | bs e s f=>
    obtain ⟨hu,hz,h⟩:=aU4 h
    obtain ⟨l,q,_,hw,g1,g2,g3⟩:=cr1 r h
    exact sl _ _ e (s.map fun b=>[.int .u8 b.toNat]) f l q _ rfl rfl (by simp [cont,dh9,List.map_drop,List.map_take]) hu hz (by simpa using g1) (by simpa using g2) (by simpa using g3) hw
   | _=>exact h.of_fail.elim
  | _=>exact h.of_fail.elim
theorem eS0 (r:R P U N L0 G0 w0 G σ a w) (hd:∀ d,o.dst=some d→d < N) {c:Call} (ho:o.op=.call c) (hb:c.callee=.builtin .len) {rd:List Nat} {ws:List (Nat × AV U.τ)} (h:aa5 P U σ (ac3 P adv o) rd ws) :
  ae5 P U N L0 G0 w0 σ o a w ws:=by
 obtain ⟨callee,args,argTypes⟩:=c
 simp only at hb
 subst hb
 simp only [ac3,ho] at h
 split at h
 ·rename_i x t ha ht
  have ha':args=#[x]:=by cases args; simp_all
  have ht':argTypes=#[t]:=by cases argTypes; simp_all
  subst ha'; subst ht'
  obtain ⟨v,_,h1,h⟩:=r.opd h
  have run:∀ n:Nat,(∀ ty,(Builtin.len_ #[t] ty #[a.eval x]).run P w=.ok (goInt n) w)→(execOp a.eval o).run P w=.ok (.value (.int .i64 n)) w:=by
   intro n hn
   simp [execOp,ho,resolve,invoke,builtin,hn,goInt]
  have pc:∀ n:Nat,(n:Int)≤ad0→PC P U w G.I (.int .i64 n) (.int .i64 n):=fun n hn=>.int _ _ (by
   unfold IntKind.has IntKind.min IntKind.max; unfold ad0 at hn; simp [IntKind.bits,IntKind.signed]; omega)
  have sl:∀ (c:CV U.τ) (e e':Nat) (css:List (List (CV U.τ))) (f:Fl) (rd':List Nat),v=.one c→cont c=some (e,css,f)→P.underlying t=some (.slice e')→aa5 P U σ (wr o.dst (.one (.int .i64 css.length))) rd' ws→ae5 P U N L0 G0 w0 σ o a w ws:=by
   intro c e e' css f rd' hv hc hu hw
   subst hv
   obtain ⟨hm,⟨hnil,hu'⟩ | ⟨_,hnil,p,cap,hu'⟩ | ⟨b,off,cap,hu',_,_,_⟩⟩:=h1.slice hc
   ·exact r.valuePC hd (run _ fun ty=>by simp [Builtin.len_,run_underlying hu,hu',hnil]) hw (pc _ hm)
   ·exact r.valuePC hd (run _ fun ty=>by simp [Builtin.len_,run_underlying hu,hu',hnil]) hw (pc _ hm)
   ·exact r.valuePC hd (run _ fun ty=>by simp [Builtin.len_,run_underlying hu,hu']) hw (pc _ hm)
  unfold eR8 at h
  split at h
  ·rename_i s hu
   exact r.valuePC hd (run _ fun ty=>by simp [Builtin.len_,run_underlying hu,h1.str.1]; rfl) h (pc _ h1.str.2)
  ·rename_i e' e xs f hu
   exact sl _ e e' (xs.map (U.enc e)) f _ rfl rfl hu (by simpa using h)
  ·rename_i e' e s f hu
   exact sl _ e e' (s.map fun b=>[.int .u8 b.toNat]) f _ rfl rfl hu (by simpa using h)
  ·rename_i e' q hu
   obtain ⟨e0,y0,q0,cap,hs,hu',hl,_⟩:=h1.sref
   obtain ⟨_,h⟩:=h.of_read
   rw [hs] at h
   have hblk:=r.slots q
   rw [hs] at hblk
   exact r.valuePC hd (run _ fun ty=>by simp [Builtin.len_,run_underlying hu,hu']) h (pc _ hblk.2.len)
  ·rename_i e' q os hu
   obtain ⟨_,hm,b,off,hu',_⟩:=h1.prow
   exact r.valuePC hd (run _ fun ty=>by simp [Builtin.len_,run_underlying hu,hu']) h (pc _ hm)
  ·exact h.of_fail.elim
 ·exact h.of_fail.elim
theorem ec1 {k:IntKind} {x y:Int} {p:Prop} [Decidable p] (hx:k.has x) (hy:k.has y):k.has (if p then x else y):=by split <;> assumption
theorem eS1 (r:R P U N L0 G0 w0 G σ a w) (hd:∀ d,o.dst=some d→d < N) {c:Call} (ho:o.op=.call c) (hb:c.callee=.builtin .min) {rd:List Nat} {ws:List (Nat × AV U.τ)} (h:aa5 P U σ (ac3 P adv o) rd ws) :
  ae5 P U N L0 G0 w0 σ o a w ws:=by
 obtain ⟨callee,args,argTypes⟩:=c
 simp only at hb
 subst hb
 simp only [ac3,ho] at h
 split at h
 ·rename_i x y ha
  have ha':args=#[x,y]:=by cases args; simp_all
  subst ha'
  obtain ⟨k,n,_,ex,hx,h⟩:=r.int h
  obtain ⟨j,m,_,ey,hy,h⟩:=r.int h
  obtain ⟨hb,h2⟩:=aa5.of_cond h
  have hkj:k=j:=of_decide_eq_true hb
  subst hkj
  exact r.valuePC hd (by simp [execOp,ho,resolve,invoke,builtin,Builtin.min_,ex,ey,Builtin.min2]) h2 (.int _ _ (ec1 hy hx))
 ·exact h.of_fail.elim
theorem eS2 (r:R P U N L0 G0 w0 G σ a w) (hd:∀ d,o.dst=some d→d < N) {c:Call} (ho:o.op=.call c) (hb:c.callee=.builtin .max) {rd:List Nat} {ws:List (Nat × AV U.τ)} (h:aa5 P U σ (ac3 P adv o) rd ws) :
  ae5 P U N L0 G0 w0 σ o a w ws:=by
 obtain ⟨callee,args,argTypes⟩:=c
 simp only at hb
 subst hb
 simp only [ac3,ho] at h
 split at h
 ·rename_i x y ha
  have ha':args=#[x,y]:=by cases args; simp_all
  subst ha'
  obtain ⟨k,n,_,ex,hx,h⟩:=r.int h
  obtain ⟨j,m,_,ey,hy,h⟩:=r.int h
  obtain ⟨hb,h2⟩:=aa5.of_cond h
  have hkj:k=j:=of_decide_eq_true hb
  subst hkj
  exact r.valuePC hd (by simp [execOp,ho,resolve,invoke,builtin,Builtin.max_,ex,ey,Builtin.max2]) h2 (.int _ _ (ec1 hy hx))
 ·exact h.of_fail.elim
theorem eh3 (s:List UInt8) (acc:ByteArray):((s.map fun b=>(b.toNat:Int)).foldl (fun r n=>r.push (UInt8.ofNat n.toNat)) acc)=⟨⟨acc.data.toList++s⟩⟩:=by
 induction s generalizing acc with
 | nil=>simp
 | cons b s ih=>
  simp only [List.map_cons,List.foldl_cons]
  rw [ih]
  have:(UInt8.ofNat (b.toNat:Int).toNat)=b:=by simp
  rw [this]
  simp [ByteArray.push]
theorem dN3 (s:List UInt8) (b off cap:Nat) (h:∀ (i:Nat) y,s[i]?=some y→w.cell? ⟨b,off+i,none⟩=some (.int .u8 y.toNat)) :
  (Conv.bytesToString (.slice (some ⟨b,off,none⟩) s.length cap)).run P w=.ok (.string ⟨⟨s⟩⟩) w:=by
 have hl:=run_loadCells_list (P:=P) w ⟨b,off,none⟩ ((s.map fun y=>(y.toNat:Int)).map (Value.int .u8)) (fun j v hj=>by
  rw [List.getElem?_map,List.getElem?_map] at hj
  cases hs:s[j]? with
  | none=>rw [hs] at hj; cases hj
  | some y=>
   rw [hs] at hj
   simp only [Option.map_some,Option.some.injEq] at hj
   rw [Addr.add_none,h j y hs,hj])
 rw [List.length_map,List.length_map] at hl
 rw [run_bytesToString w _ _ _ _ hl,eh3]
 rfl
theorem ag3 {b:Nat} {c:Array Value} {T:TypeId} {fz:Nat × Nat} (h:w.heap[b]?=some (.cells c T fz)) (o:Nat):w.cell? ⟨b,o,none⟩=c[o]?:=by
 simp [World.cell?,h]
theorem di0 (r:R P U N L0 G0 w0 G σ a w) {x:Operand} {v:AV U.τ} (h1:Opd (P:=P) G σ w x v (a.eval x)) {k:List UInt8→ac6 U} {rd:List Nat} {ws:List (Nat × AV U.τ)} (h:aa5 P U σ (bM6 v k) rd ws) :
  ∃ s rd',aa5 P U σ (k s) rd' ws∧(s.length:Int)≤ad0∧((v=.one (.str s)∧a.eval x=.string ⟨⟨s⟩⟩)∨(s=[]∧∃ q cap,a.eval x=.slice q 0 cap)∨
   ∃ b off cap,a.eval x=.slice (some ⟨b,off,none⟩) s.length cap∧∀ (i:Nat) y,s[i]?=some y→w.cell? ⟨b,off+i,none⟩=some (.int .u8 y.toNat)):=by
 cases v with
 | one c=>
  cases c with
  | str s=>exact ⟨s,_,h,h1.str.2,.inl ⟨rfl,h1.str.1⟩⟩
  | bs e s f=>
   obtain ⟨hm,⟨hnil,hu'⟩ | ⟨_,hnil,p,cap,hu'⟩ | ⟨b,off,cap,hu',_,_,hco⟩⟩:=h1.slice (css:=s.map fun b=>[.int .u8 b.toNat]) (e:=e) (f:=f) rfl
   ·have:s=[]:=by simpa using hnil
    exact ⟨s,_,h,by simpa using hm,.inr (.inl ⟨this,_,_,hu'⟩)⟩
   ·have:s=[]:=by simpa using hnil
    exact ⟨s,_,h,by simpa using hm,.inr (.inl ⟨this,_,_,hu'⟩)⟩
   ·refine ⟨s,_,h,by simpa using hm,.inr (.inr ⟨b,off,cap,by simpa using hu',fun i y hy=>?_⟩)⟩
    obtain ⟨u,h2,h3⟩:=hco.cell i [.int .u8 y.toNat] 0 _ (by rw [List.getElem?_map,hy]; rfl) rfl
    have hsz:=hco.len i [.int .u8 y.toNat] (by rw [List.getElem?_map,hy]; rfl)
    rw [h3.of_int.1,← hsz] at h2
    simpa using h2
  | sref q=>
   obtain ⟨e0,y0,q0,cap,hs,hu',hl,_⟩:=h1.sref
   obtain ⟨_,h⟩:=h.of_read
   rw [hs] at h
   have hblk:=r.slots q
   rw [hs] at hblk
   obtain ⟨c,T,fz,k1,k2,k3,k4⟩:=hblk.2.row
   exact ⟨y0,_,h,hblk.2.len,.inr (.inr ⟨_,_,cap,hu',fun i y hy=>by rw [ag3 k1]; exact k4 i y hy⟩)⟩
  | _=>exact h.of_fail.elim
 | _=>exact h.of_fail.elim
theorem be9 {e:TypeId} (h:bC9 P e=true):P.cellsOf e=1∧P.bytesOf e=1∧P.underlying e=some (.int .u8)∧∃ i,P.info? e=some i∧i.zero=some (.int .u8 0)∧i.size=1∧i.bytes=1:=by
 unfold bC9 at h
 split at h
 ·rename_i i hi
  split at h
  ·rename_i hz
   simp only [Bool.and_eq_true] at h
   obtain ⟨⟨h1,h2⟩,h3⟩:=h
   have h1:=Nat.eq_of_beq_eq_true h1
   have h2:=Nat.eq_of_beq_eq_true h2
   refine ⟨by simp [Program.cellsOf,hi,h1],by simp [Program.bytesOf,hi,h2],?_,i,hi,hz,h1,h2⟩
   split at h3
   ·assumption
   ·cases h3
  ·cases h
 ·cases h
end
end Go.VI
namespace Go.VI
open Go
section
variable {P:Program} {U:ad6} {N:Nat} {L0:Nat→Nat} {G0:ab7} {w0:World} {G:ab7} {σ:ac0 U} {a:Act} {w:World} {o:Oper} {adv:Adv}
theorem R.moveApp (r:R P U N L0 G0 w0 G σ a w) {s d:Nat} {c:CV U.τ} {e:Nat} {css:List (List (CV U.τ))} (hs:σ s=.one c) (hsv:s < aa9) (hc:cont c=some (e,css,.app)) (hd:d < N) (ho:(σ d).owner=false) :
  ∃ G',R P U N L0 G0 w0 G' (upd (upd σ d (.one c)) s (.one c.plain)) (a.put (some d) (a.tmps.getD s undef)) w:=by
 have hso:ac9 P U G σ w s (.one c) (a.tmps.getD s undef):=by have:=r.slots s; rwa [hs] at this
 have happ:aU3 P U w G.I G.who (s,none) c (a.tmps.getD s undef):=by
  have h2:ae3 P U w G.I G.who (s,none) c (a.tmps.getD s undef):=by
   cases c <;> first | (simp [cont] at hc; done) | exact hso
  rcases h2 with h2 | h2
  ·exact absurd rfl (h2.slice hc).1
  ·exact h2
 have hn:∀ t,(σ t).owner=true→t≠d∧t≠s:=fun t ht=>⟨(fun he=>by subst he; rw [ho] at ht; cases ht),(fun he=>by subst he; rw [hs] at ht; cases ht)⟩
 have hp:=happ.plain
 let G':ab7:=⟨G.I,G.loc,fun b=>if G.who b=some (s,none) then some (d,none) else G.who b⟩
 have same:∀ t,t≠d→t≠s→(upd (upd σ d (.one c)) s (.one c.plain)) t=σ t:=fun t h1 h2=>by simp [upd,h1,h2]
 have x:Ext (fun L=>L=(s,none)) G G' σ (upd (upd σ d (.one c)) s (.one c.plain)) w w:=by
  refine ⟨fun _ _ h=>⟨h,rfl⟩,fun b L h hL=>⟨?_,rfl,fun _ h=>h⟩,fun _ _=>rfl,fun t cs ht=>?_,fun t e y q ht=>?_⟩
  ·show (if G.who b=some (s,none) then some (d,none) else G.who b)=some L
   rw [if_neg (fun he=>hL (by rw [h] at he; injection he)),h]
  ·obtain ⟨h1,h2⟩:=hn t (by rw [ht]; rfl)
   exact ⟨cs,by rw [same t h1 h2,ht]⟩
  ·obtain ⟨h1,h2⟩:=hn t (by rw [ht]; rfl)
   exact ⟨e,y,by rw [same t h1 h2,ht],rfl⟩
 have st:aF1 G w G' w:=by
  refine ⟨rfl,rfl,rfl,Nat.le_refl _,fun _ _ _=>rfl,fun _ _ h=>⟨h,rfl⟩,fun _ _ h=>.inl h,fun b L h=>.inr ?_⟩
  have h':(if G.who b=some (s,none) then some (d,none) else G.who b)=some L:=h
  split at h'
  ·rename_i hh; simp [hh]
  ·simp [h']
 refine ⟨G',r.go x st rfl (by simp [Act.put]) (fun _ _=>rfl) (fun b o h=>.inl h) (fun b L h=>.inl ?_) (fun t cs' ht hσ=>?_) (fun t=>?_)⟩
 ·rcases st.newW b L h with h1 | h1
  ·exfalso
   have h':(if G.who b=some (s,none) then some (d,none) else G.who b)=some L:=h
   have:∃ L',G.who b=some L':=by
    split at h'
    ·rename_i hh; exact ⟨_,hh⟩
    ·exact ⟨_,h'⟩
   obtain ⟨L',h2⟩:=this
   have:=r.who b L' h2
   omega
  ·exact Option.isSome_iff_exists.1 h1
 ·have h1:t≠d:=fun he=>by have:=r.small; omega
  have h2:t≠s:=fun he=>by omega
  rw [same t h1 h2] at hσ
  exact ⟨cs',hσ,rfl,fun _ _=>rfl⟩
 ·rw [bs4 (Nat.lt_of_lt_of_le hd r.size)]
  by_cases hts:t=s
  ·subst hts
   right
   have h1:(upd (upd σ d (.one c)) t (.one c.plain)) t=.one c.plain:=by simp [upd]
   have h2:(if t=d then a.tmps.getD t undef else a.tmps.getD t undef)=a.tmps.getD t undef:=by split <;> rfl
   rw [h1,h2]
   exact ac9.of_pc hp
  ·by_cases htd:t=d
   ·subst htd
    right
    have h1:(upd (upd σ t (.one c)) s (.one c.plain)) t=.one c:=by simp [upd,hts]
    rw [h1,if_pos rfl]
    have h3:aU3 P U w G'.I G'.who (t,none) c (a.tmps.getD s undef):=by
     obtain ⟨e',css',k1,k2,k3⟩:=happ
     refine ⟨e',css',k1,k2,?_⟩
     rcases k3 with k3 | ⟨b,off,cap,k4,k5,k6,k7⟩
     ·exact .inl k3
     ·refine .inr ⟨b,off,cap,k4,k5,k6,?_⟩
      rcases k7 with k7 | ⟨k7,k8⟩
      ·exact .inl k7
      ·exact .inr ⟨by show (if G.who b=some (s,none) then some (t,none) else G.who b)=_; rw [if_pos k7],k8⟩
    cases c <;> first | (simp [cont] at hc; done) | exact .inr h3
   ·left
    refine ⟨same t htd hts,by rw [if_neg htd],fun he=>hts (by injection he),fun i he=>by injection he with _ h2; cases h2⟩
theorem dN4 {dst:Option Nat} {v:AV U.τ} (h:bx0 adv dst v=true):∃ d c e css,dst=some d∧v=.one c∧cont c=some (e,css,.app):=by
 unfold bx0 at h
 split at h
 ·exact ⟨_,_,_,_,rfl,rfl,rfl⟩
 ·exact ⟨_,_,_,_,rfl,rfl,rfl⟩
 ·cases h
theorem R.moveGoes (r:R P U N L0 G0 w0 G σ a w) (hd:∀ d,o.dst=some d→d < N) {x:Operand} {v:AV U.τ} (h1:Opd (P:=P) G σ w x v (a.eval x)) (hrun:(execOp a.eval o).run P w=.ok (.value (a.eval x)) w) {c:CV U.τ} {e:Nat} {css:List (List (CV U.τ))}
  (hv:v=.one c) (hc:cont c=some (e,css,.app)) {rd:List Nat} {ws:List (Nat × AV U.τ)}
  (h:aa5 P U σ (match av2 x with | some s=>wr o.dst v [(s,v.plain)] | none=>.fail) rd ws) (hdst:o.dst≠none):ae5 P U N L0 G0 w0 σ o a w ws:=by
 subst hv
 cases x with
 | tmp s=>
  simp only [av2] at h
  obtain ⟨t,_,ht⟩:=h1.ok
  have hs:σ s=.one c∧s < aa9:=by
   rcases ht with ⟨h2,h3,h4⟩ | ⟨h2,_⟩
   ·injection h2 with h2; subst h2
    refine ⟨?_,h3⟩
    cases hσ:σ s with
    | box cs=>rw [hσ] at h4; simp only [av1] at h4; injection h4 with h4; subst h4; simp [cont] at hc
    | bblk e y q=>rw [hσ] at h4; simp only [av1] at h4; injection h4 with h4; subst h4; simp [cont] at hc
    | _=>rw [hσ] at h4; exact h4.symm
   ·cases h2
  rcases h.of_wr with ⟨k1,_⟩ | ⟨d,k1,k2,k3⟩
  ·exact absurd k1 hdst
  ·have:=r.moveApp hs.1 hs.2 hc (hd d k1) k3
   unfold ae5 az3
   rw [hrun]
   simp only
   rw [k1,k2]
   exact this
 | _=>exact h.of_fail.elim
theorem eL0 (r:R P U N L0 G0 w0 G σ a w) (hd:∀ d,o.dst=some d→d < N) {x:Operand} (ho:o.op=.move x) {rd:List Nat} {ws:List (Nat × AV U.τ)} (h:aa5 P U σ (ac3 P adv o) rd ws) :
  ae5 P U N L0 G0 w0 σ o a w ws:=by
 simp only [ac3,ho] at h
 obtain ⟨v,_,h1,h⟩:=r.opd h
 have hrun:(execOp a.eval o).run P w=.ok (.value (a.eval x)) w:=by simp [execOp,ho]
 cases hg:bx0 adv o.dst v with
 | true=>
  rw [hg] at h
  obtain ⟨d,c,e,css,k1,k2,k3⟩:=dN4 hg
  exact r.moveGoes hd h1 hrun k2 k3 h (by rw [k1]; simp)
 | false=>
  rw [hg] at h
  obtain ⟨k1,k2⟩:=bY7 h1
  exact r.value hd hrun h k1 k2
theorem ep5 (r:R P U N L0 G0 w0 G σ a w) (hd:∀ d,o.dst=some d→d < N) {x:Operand} (ho:o.op=.assign x) {rd:List Nat} {ws:List (Nat × AV U.τ)} (h:aa5 P U σ (ac3 P adv o) rd ws) :
  ae5 P U N L0 G0 w0 σ o a w ws:=by
 simp only [ac3,ho] at h
 obtain ⟨v,_,h1,h⟩:=r.opd h
 have hrun:(execOp a.eval o).run P w=.ok (.value (a.eval x)) w:=by simp [execOp,ho]
 have plain:∀ rd',v.plain=v→aa5 P U σ (wr o.dst v) rd' ws→ae5 P U N L0 G0 w0 σ o a w ws:=by
  intro rd' hp h
  obtain ⟨k1,k2⟩:=bY7 h1
  rw [hp] at k1 k2
  exact r.value hd hrun h k1 k2
 have app:∀ c e css rd',v=.one c→cont c=some (e,css,.app)→aa5 P U σ (match av2 x with | some s=>wr o.dst v [(s,v.plain)] | none=>.fail) rd' ws→ae5 P U N L0 G0 w0 σ o a w ws:=by
  intro c e css rd' hv hc h
  cases hdst:o.dst with
  | some d=>exact r.moveGoes hd h1 hrun hv hc h (by rw [hdst]; simp)
  | none=>
   unfold ae5 az3
   rw [hrun,hdst]
   simp only [Act.put]
   subst hv
   cases x with
   | tmp s=>
    simp only [av2,hdst] at h
    have:=h.of_done
    subst this
    obtain ⟨t,_,ht⟩:=h1.ok
    have hs:σ s=.one c∧s < aa9:=by
     rcases ht with ⟨h2,h3,h4⟩ | ⟨h2,_⟩
     ·injection h2 with h2; subst h2
      refine ⟨?_,h3⟩
      cases hσ:σ s with
      | box cs=>rw [hσ] at h4; simp only [av1] at h4; injection h4 with h4; subst h4; simp [cont] at hc
      | bblk e y q=>rw [hσ] at h4; simp only [av1] at h4; injection h4 with h4; subst h4; simp [cont] at hc
      | _=>rw [hσ] at h4; exact h4.symm
     ·cases h2
    refine ⟨G,?_⟩
    have hso:=r.slots s
    rw [hs.1] at hso
    have hpl:=hso.plain rfl
    have hn:∀ t,(σ t).owner=true→t≠s:=fun t hto he=>by rw [he,hs.1] at hto; cases hto
    have x:Ext (fun _=>False) G G σ (upd σ s (AV.one c).plain) w w:=
     ⟨fun _ _ h=>⟨h,rfl⟩,fun _ _ h _=>⟨h,rfl,fun _ h=>h⟩,fun _ _=>rfl,fun t cs ht=>⟨cs,by simp [upd,hn t (by rw [ht]; rfl),ht]⟩,
      fun t e y q ht=>⟨e,y,by simp [upd,hn t (by rw [ht]; rfl),ht],rfl⟩⟩
    refine r.go x (.refl G w) rfl rfl (fun _ _=>rfl) (fun b o h=>.inl h) (fun b L h=>.inl ⟨L,h⟩) (fun t cs' ht hσ=>?_) (fun t=>?_)
    ·have:t≠s:=fun he=>Nat.lt_irrefl aa9 (Nat.lt_of_le_of_lt (he ▸ ht) hs.2)
     simp only [ad1,upd,this,if_false] at hσ
     exact ⟨cs',hσ,rfl,fun _ _=>rfl⟩
    ·by_cases hts:t=s
     ·subst hts
      right
      simp only [ad1,upd,if_true]
      exact (hpl.2 t).mono x (fun h=>h) (fun _ h=>h) (fun hh=>by rw [hpl.1] at hh; cases hh)
     ·left
      simp [ad1,upd,hts]
   | _=>exact h.of_fail.elim
 split at h
 ·exact app _ _ _ _ rfl rfl h
 ·exact app _ _ _ _ rfl rfl h
 ·rename_i hx hy
  refine plain _ ?_ h
  cases v with
  | one c=>
   cases c with
   | sl e xs f=>cases f <;> first | rfl | exact absurd rfl (hx _ _)
   | bs e xs f=>cases f <;> first | rfl | exact absurd rfl (hy _ _)
   | _=>rfl
  | _=>rfl
end
end Go.VI
namespace Go.VI
open Go
section
variable {P:Program} {U:ad6} {N:Nat} {L0:Nat→Nat} {G0:ab7} {w0:World} {G:ab7} {σ:ac0 U} {a:Act} {w:World} {o:Oper} {adv:Adv}
structure ax3 (P:Program) (U:ad6) (w:World) (I:Nat→Nat→Prop) (cs:List (CV U.τ)) (us:Array Value):Prop where
 size:us.size=cs.length
 cell:∀ (j:Nat) c,cs[j]?=some c→∃ y,us[j]?=some y∧PC P U w I c y
theorem ak5.cells {I:Nat→Nat→Prop} {ag:Bool} {cs:List (CV U.τ)} {u:Value} (h:ak5 P U w I ag cs u):ax3 P U w I cs u.cells:=by
 cases ag with
 | true=>
  obtain ⟨us,rfl,h1,h2⟩:=h
  exact ⟨h1,h2⟩
 | false=>
  obtain ⟨c,rfl,hc⟩:=h
  have:u.cells=#[u]:=by
   have:=hc.one1
   cases u <;> first | rfl | exact this.elim
  rw [this]
  refine ⟨rfl,fun j d hj=>?_⟩
  cases j with
  | zero=>simp at hj; subst hj; exact ⟨u,rfl,hc⟩
  | succ j=>simp at hj
theorem aB4 (ds:List (CV U.τ)):∀ (cs:List (CV U.τ)) (off:Nat),(setCells cs off ds).length=cs.length:=by
 induction ds with
 | nil=>intro cs off; rfl
 | cons d ds ih=>intro cs off; rw [setCells,ih,List.length_set]
theorem aQ8 (ds:List (CV U.τ)):∀ (cs:List (CV U.τ)) (off j:Nat),off+ds.length≤cs.length→(setCells cs off ds)[j]?=if off≤j∧j < off+ds.length then ds[j - off]? else cs[j]?:=by
 induction ds with
 | nil=>intro cs off j _; rw [setCells,if_neg (by simp)]
 | cons d ds ih=>
  intro cs off j h
  simp only [List.length_cons] at h
  rw [setCells,ih _ _ _ (by rw [List.length_set]; omega)]
  by_cases h1:off+1≤j∧j < off+1+ds.length
  ·rw [if_pos h1,if_pos (by simp; omega)]
   rw [show j - off=(j - (off+1))+1 by omega,List.getElem?_cons_succ]
  ·rw [if_neg h1]
   by_cases h2:j=off
   ·subst h2
    rw [if_pos (by simp),List.getElem?_set_self (by omega)]
    simp
   ·rw [List.getElem?_set_ne (Ne.symm h2),if_neg (by simp; omega)]
theorem dc4 (us:List Value):∀ (k:Nat) (cells:Array Value) (off:Nat),off+k+us.length≤cells.size→
  ((us.zipIdx k).foldl (fun cs (p:Value × Nat)=>cs.setIfInBounds (off+p.2) p.1) cells).size=cells.size∧
  ∀ j,((us.zipIdx k).foldl (fun cs (p:Value × Nat)=>cs.setIfInBounds (off+p.2) p.1) cells)[j]?=if off+k≤j∧j < off+k+us.length then us[j - (off+k)]? else cells[j]?:=by
 induction us with
 | nil=>intro k cells off h; exact ⟨rfl,fun j=>by rw [if_neg (by simp)]; rfl⟩
 | cons u us ih=>
  intro k cells off h
  simp only [List.length_cons] at h
  simp only [List.zipIdx_cons,List.foldl_cons]
  obtain ⟨h1,h2⟩:=ih (k+1) (cells.setIfInBounds (off+k) u) off (by simp; omega)
  refine ⟨by rw [h1]; simp,fun j=>?_⟩
  rw [h2]
  by_cases c1:off+(k+1)≤j∧j < off+(k+1)+us.length
  ·rw [if_pos c1,if_pos (by simp; omega)]
   rw [show j - (off+k)=(j - (off+(k+1)))+1 by omega,List.getElem?_cons_succ]
  ·rw [if_neg c1]
   by_cases c2:j=off+k
   ·subst c2
    rw [if_pos (by simp),Array.getElem?_setIfInBounds]
    simp; omega
   ·rw [Array.getElem?_setIfInBounds_ne (Ne.symm c2),if_neg (by simp; omega)]
theorem ax3.set {I:Nat→Nat→Prop} {cs ds:List (CV U.τ)} {cells us:Array Value} (h:ax3 P U w I cs cells) (k:ax3 P U w I ds us) {off:Nat} (hl:off+ds.length≤cs.length) :
  ax3 P U w I (setCells cs off ds) (us.zipIdx.foldl (fun cs (p:Value × Nat)=>cs.setIfInBounds (off+p.2) p.1) cells):=by
 have hu:us.toList.length=ds.length:=by simpa using k.size
 obtain ⟨h1,h2⟩:=dc4 us.toList 0 cells off (by rw [hu,h.size]; omega)
 have e:us.zipIdx.foldl (fun cs (p:Value × Nat)=>cs.setIfInBounds (off+p.2) p.1) cells=(us.toList.zipIdx 0).foldl (fun cs (p:Value × Nat)=>cs.setIfInBounds (off+p.2) p.1) cells:=by
  rw [← Array.foldl_toList,Array.toList_zipIdx]
 rw [e]
 refine ⟨by rw [h1,aB4,h.size],fun j c hj=>?_⟩
 rw [aQ8 _ _ _ _ hl] at hj
 rw [h2,hu,Nat.add_zero]
 split at hj
 ·rename_i hc
  rw [if_pos hc]
  obtain ⟨y,hy,hp⟩:=k.cell _ _ hj
  exact ⟨y,by simpa using hy,hp⟩
 ·rename_i hc
  rw [if_neg hc]
  exact h.cell j c hj
theorem bf0 {I:Nat→Nat→Prop} {t:TypeId} {ag:Bool} {cs:List (CV U.τ)} (h:bz1 P t=some (ag,cs)):∃ z,(zeroValue t).run P w=.ok z w∧ak5 P U w I ag cs z:=by
 unfold bz1 at h
 split at h
 ·rename_i i hi
  split at h
  ·rename_i zs hz
   cases hb:zs.toList.all aU2 with
   | false=>rw [hb] at h; cases h
   | true=>
    rw [hb] at h
    simp only [cond_true,Option.some.injEq,Prod.mk.injEq] at h
    obtain ⟨rfl,rfl⟩:=h
    obtain ⟨h1,h2⟩:=bx1 (P:=P) (U:=U) (w:=w) (I:=I) zs.toList (flat P 6 t) hb
    refine ⟨.agg zs,by simp [zeroValue,typeInfo,hi,hz],zs,rfl,by rw [h1]; simp,fun j c hj=>?_⟩
    obtain ⟨v,g1,g2⟩:=h2 j c hj
    exact ⟨v,by simpa using g1,g2⟩
  ·rename_i v hne hz
   cases hb:aU2 v with
   | false=>rw [hb] at h; cases h
   | true=>
    rw [hb] at h
    simp only [cond_true,Option.some.injEq,Prod.mk.injEq] at h
    obtain ⟨rfl,rfl⟩:=h
    exact ⟨v,by simp [zeroValue,typeInfo,hi,hz],_,rfl,cq8 hb⟩
  ·cases h
 ·cases h
theorem bY8 {place:Nat→Option (Nat × Nat)} {cells:Array Value} {i:Nat} {v:Value} {rest:List (Nat × Value)} {off size:Nat} (hp:place i=some (off,size)) (h1:v.cells.size=size) (h2:off+v.cells.size≤cells.size) :
  Instr.fill place cells ((i,v)::rest)=Instr.fill place (v.cells.zipIdx.foldl (fun cs (p:Value × Nat)=>cs.setIfInBounds (off+p.2) p.1) cells) rest:=by
 have:(v.cells.size≠size || off+v.cells.size > cells.size)=false:=by simp [h1]; omega
 simp only [Instr.fill,hp,this]
 rfl
theorem di1 (r:R P U N L0 G0 w0 G σ a w) {fs:Array Field} {place:Nat→Option (Nat × Nat)} (hpl:∀ (i:Nat) (f:Field),fs[i]?=some f→place i=some (f.offset,P.cellsOf f.type)) :
  ∀ (parts:List (Nat × Operand)) (cs:List (CV U.τ)) (cells:Array Value) {k:List (CV U.τ)→ac6 U} {rd:List Nat} {ws:List (Nat × AV U.τ)},ax3 P U w G.I cs cells→aa5 P U σ (cR6 P fs parts cs k) rd ws→
  ∃ cs' cells' rd',aa5 P U σ (k cs') rd' ws∧ax3 P U w G.I cs' cells'∧Instr.fill place cells (parts.map fun p=>(p.1,a.eval p.2))=some cells'
 | [],cs,cells,k,rd,ws,hc,h=>⟨cs,cells,rd,h,hc,rfl⟩
 | (j,x)::parts,cs,cells,k,rd,ws,hc,h=>by
  simp only [cR6] at h
  cases hj:fs[j]? with
  | none=>rw [hj] at h; exact h.of_fail.elim
  | some f=>
   rw [hj] at h
   obtain ⟨ag,ds,_,hv,h⟩:=r.cells h
   obtain ⟨hb,h⟩:=aa5.of_cond h
   simp only [Bool.and_eq_true] at hb
   have hl:=Nat.eq_of_beq_eq_true hb.1
   have hle:=Nat.le_of_ble_eq_true hb.2
   have hu:=hv.cells
   obtain ⟨cs',cells',rd',g1,g2,g3⟩:=di1 r hpl parts _ _ (hc.set hu hle) h
   refine ⟨cs',cells',rd',g1,g2,?_⟩
   rw [List.map_cons,bY8 (hpl j f hj) (by rw [hu.size,hl]) (by rw [hu.size,hc.size]; exact hle)]
   exact g3
theorem dz8 (r:R P U N L0 G0 w0 G σ a w) {e:TypeId} :
  ∀ (parts:List (Nat × Operand)) (cs:List (CV U.τ)) (cells:Array Value) {k:List (CV U.τ)→ac6 U} {rd:List Nat} {ws:List (Nat × AV U.τ)},ax3 P U w G.I cs cells→aa5 P U σ (dh2 P e parts cs k) rd ws→
  ∃ cs' cells' rd',aa5 P U σ (k cs') rd' ws∧ax3 P U w G.I cs' cells'∧Instr.fill (fun i=>some (i * P.cellsOf e,P.cellsOf e)) cells (parts.map fun p=>(p.1,a.eval p.2))=some cells'
 | [],cs,cells,k,rd,ws,hc,h=>⟨cs,cells,rd,h,hc,rfl⟩
 | (j,x)::parts,cs,cells,k,rd,ws,hc,h=>by
  simp only [dh2] at h
  obtain ⟨ag,ds,_,hv,h⟩:=r.cells h
  obtain ⟨hb,h⟩:=aa5.of_cond h
  simp only [Bool.and_eq_true] at hb
  have hl:=Nat.eq_of_beq_eq_true hb.1
  have hle:=Nat.le_of_ble_eq_true hb.2
  have hu:=hv.cells
  obtain ⟨cs',cells',rd',g1,g2,g3⟩:=dz8 r parts _ _ (hc.set hu hle) h
  refine ⟨cs',cells',rd',g1,g2,?_⟩
  rw [List.map_cons,bY8 rfl (by rw [hu.size,hl]) (by rw [hu.size,hc.size]; exact hle)]
  exact g3
theorem cV6 {α β:Type} (f:α→Sem β) (g:α→β):∀ (l:List α),(∀ x∈l,(f x).run P w=.ok (g x) w)→(l.mapM f).run P w=.ok (l.map g) w
 | [],_=>rfl
 | x::l,h=>by
  simp only [List.mapM_cons,Sem.run_bind,h x (List.mem_cons_self ..),Result.andThen_ok,cV6 f g l (fun y hy=>h y (List.mem_cons_of_mem _ hy)),List.map_cons,Sem.run_pure]
theorem eA4 (r:R P U N L0 G0 w0 G σ a w) (hd:∀ d,o.dst=some d→d < N) {t:TypeId} {parts:Array (Nat × Operand)} (ho:o.op=.build t parts) {rd:List Nat} {ws:List (Nat × AV U.τ)} (h:aa5 P U σ (ac3 P adv o) rd ws) :
  ae5 P U N L0 G0 w0 σ o a w ws:=by
 simp only [ac3,ho] at h
 split at h
 ·rename_i fs z hu hz
  obtain ⟨hb,h⟩:=aa5.of_cond h
  obtain ⟨zv,hzr,hzv⟩:=bf0 (w:=w) (I:=G.I) hz
  have hpl:∀ (i:Nat) (f:Field),fs[i]?=some f→(fs.map fun (f:Field)=>(f.offset,P.cellsOf f.type))[i]?=some (f.offset,P.cellsOf f.type):=fun i f hf=>by simp [hf]
  obtain ⟨cs',cells',_,hw,g2,g3⟩:=di1 r hpl parts.toList z _ hzv.cells h
  refine r.value hd (u:=.agg cells') ?_ hw rfl fun _=>⟨_,rfl,g2.size,g2.cell⟩
  have hm:(fs.mapM fun (f:Field)=>do pure (f.offset,← sizeOf f.type):Sem _).run P w=.ok (fs.map fun (f:Field)=>(f.offset,P.cellsOf f.type)) w:=by
   rw [Array.mapM_eq_mapM_toList]
   simp only [Sem.run_map]
   rw [cV6 _ (fun (f:Field)=>(f.offset,P.cellsOf f.type)) fs.toList (fun f hf=>by
    have:=List.all_eq_true.1 hb f hf
    simp [run_sizeOf (Nat.le_of_ble_eq_true this)])]
   simp only [Result.andThen_ok,← Array.toList_map]
  have g4:Instr.fill (fun x=>(fs.map fun (f:Field)=>(f.offset,P.cellsOf f.type))[x]?) zv.cells (parts.map fun p=>(p.1,a.eval p.2)).toList=some cells':=by rw [Array.toList_map]; exact g3
  simp only [execOp,ho,Sem.run_bind,Instr.build,hzr,Result.andThen_ok,run_underlying hu,hm]
  have g5:(parts.map fun (x:Nat × Operand)=>match x with | (i,x)=>(i,a.eval x))=parts.map fun p=>(p.1,a.eval p.2):=rfl
  rw [g5,g4]
  rfl
 ·rename_i m e z hu hz
  obtain ⟨hb,h⟩:=aa5.of_cond h
  obtain ⟨zv,hzr,hzv⟩:=bf0 (w:=w) (I:=G.I) hz
  obtain ⟨cs',cells',_,hw,g2,g3⟩:=dz8 r parts.toList z _ hzv.cells h
  refine r.value hd (u:=.agg cells') ?_ hw rfl fun _=>⟨_,rfl,g2.size,g2.cell⟩
  have g4:Instr.fill (fun i=>some (i * P.cellsOf e,P.cellsOf e)) zv.cells (parts.map fun p=>(p.1,a.eval p.2)).toList=some cells':=by rw [Array.toList_map]; exact g3
  simp only [execOp,ho,Sem.run_bind,Instr.build,hzr,Result.andThen_ok,run_underlying hu,run_sizeOf (Nat.le_of_ble_eq_true hb)]
  have g5:(parts.map fun (x:Nat × Operand)=>match x with | (i,x)=>(i,a.eval x))=parts.map fun p=>(p.1,a.eval p.2):=rfl
  rw [g5,g4]
  rfl
 ·exact h.of_fail.elim
theorem cr2 {t:TypeId} {cs:List (CV U.τ)} {off:Nat} {v:AV U.τ} (h:al8 P t cs off=some v) (hz:1≤P.cellsOf t) {b base:Nat} (hc:∀ (j:Nat) c,cs[j]?=some c→∃ y,w.cell? ⟨b,base+j,none⟩=some y∧PC P U w G.I c.plain y) :
  v.plain.owner=false∧∃ u,(loadVar t ⟨b,base+off,none⟩).run P w=.ok u w∧(∀ t',ac9 P U G σ w t' v.plain u)∧∀ c,v=.one c→cs[off]?=some c∧w.cell? ⟨b,base+off,none⟩=some u:=by
 have ag:∀ d,P.underlying t=some d→ce0 d=true→(aj2 cs off (P.cellsOf t)).map (fun l=>AV.agg (l.map CV.plain))=some v→
   v.plain.owner=false∧∃ u,(loadVar t ⟨b,base+off,none⟩).run P w=.ok u w∧(∀ t',ac9 P U G σ w t' v.plain u)∧∀ c,v=.one c→cs[off]?=some c∧w.cell? ⟨b,base+off,none⟩=some u:=by
  intro d hu hr h
  cases hl:aj2 cs off (P.cellsOf t) with
  | none=>rw [hl] at h; cases h
  | some l=>
   rw [hl] at h
   injection h with h; subst h
   obtain ⟨h1,rfl⟩:=aF2 hl
   have hget:∀ j,j < P.cellsOf t→∃ c,cs[off+j]?=some c:=fun j hj=>⟨cs[off+j]'(by omega),List.getElem?_eq_getElem (by omega)⟩
   have hrun:=run_loadCells (P:=P) w ⟨b,base+off,none⟩ (P.cellsOf t) (fun j=>(w.cell? ⟨b,base+off+j,none⟩).getD undef) (fun j hj=>by
    obtain ⟨c,hcj⟩:=hget j hj
    obtain ⟨y,hy,_⟩:=hc _ c hcj
    rw [Addr.add_none,Nat.add_assoc,hy]; rfl)
   refine ⟨rfl,_,by simp only [loadVar,Sem.run_bind,aB3 hu,hr,Result.andThen_ok,if_true,run_sizeOf hz,hrun]; rfl,fun _=>⟨_,rfl,?_,fun j c hj=>?_⟩,fun c hv=>by cases hv⟩
   ·simp; omega
   ·rw [List.getElem?_map] at hj
    cases hx:(List.take (P.cellsOf t) (List.drop off cs))[j]? with
    | none=>rw [hx] at hj; cases hj
    | some c0=>
     rw [hx] at hj
     injection hj with hj; subst hj
     rw [List.getElem?_take] at hx
     split at hx
     ·rename_i hlt
      rw [getElem?_drop'] at hx
      obtain ⟨y,hy,hpc⟩:=hc _ _ hx
      refine ⟨y,?_,hpc⟩
      simp [hlt,Nat.add_assoc,hy]
     ·cases hx
 have one:∀ d,P.underlying t=some d→ce0 d=false→(match cs[off]? with | some c=>some (AV.one c) | none=>none)=some v→
   v.plain.owner=false∧∃ u,(loadVar t ⟨b,base+off,none⟩).run P w=.ok u w∧(∀ t',ac9 P U G σ w t' v.plain u)∧∀ c,v=.one c→cs[off]?=some c∧w.cell? ⟨b,base+off,none⟩=some u:=by
  intro d hu hr h
  cases hx:cs[off]? with
  | none=>rw [hx] at h; cases h
  | some c=>
   rw [hx] at h
   injection h with h; subst h
   obtain ⟨y,hy,hpc⟩:=hc _ _ hx
   refine ⟨rfl,y,by simp only [loadVar,Sem.run_bind,aB3 hu,hr,Result.andThen_ok]; simp [hy],fun _=>ac9.of_pc hpc,fun c' hv=>?_⟩
   injection hv with hv; subst hv
   exact ⟨rfl,hy⟩
 unfold al8 at h
 split at h
 ·rename_i hu; exact ag _ hu rfl h
 ·rename_i hu; exact ag _ hu rfl h
 ·rename_i d h1 h2 hu
  exact one d hu (by cases d <;> first | rfl | (exact absurd hu (by simp_all))) h
 ·cases h
end
end Go.VI
