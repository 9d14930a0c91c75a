/- Messages: whether they are the same, are of few parts, are bare. -/
import Derived.Test.YthmafkkiefndnaaGreatQFQ0
import Derived.Test.YthmafkkiefndnaaGreatQFQ1
import Derived.Test.YthmafkkiefndnaaGreatQFQ7
import Derived.Test.YthmafkkiefndnaaGreatQPBase
import Derived.Test.YthmafkkiefndnaaGreatQPCur
import Derived.Test.YthmafkkiefndnaaGreatQPOct
import Derived.Test.YthmafkkiefndnaaGreatQPTlv
import Derived.Test.YthmafkkiefndnaaGreatQPSub
set_option linter.unusedVariables false
set_option linter.unusedSimpArgs false
set_option maxRecDepth 100000
namespace Go.VP
open Go Go.VI
abbrev Msg := S_api_Msg
abbrev Dest := S_api_Dest
theorem ne_step {α R : Type} [BEq α] [LawfulBEq α] {x y : α} {f t r : R} (hne : x ≠ y → f = r) (heq : x = y → t = r) : (if (x != y) = true then f else t) = r := by
  by_cases h : x = y
  · rw [if_neg (by simp [h])]; exact heq h
  · rw [if_pos (by simp [h])]; exact hne h
theorem nq_step {α R : Type} [BEq α] [LawfulBEq α] {x y : α} {f t r : R} (hne : x ≠ y → f = r) (heq : x = y → t = r) : (if (!(x == y)) = true then f else t) = r := ne_step hne heq
open Classical in
noncomputable def eqB {α : Type} (a b : α) : Bool := decide (a = b)
theorem eqB_true {α : Type} {a b : α} : eqB a b = true ↔ a = b := by simp [eqB]
theorem eqB_refl {α : Type} (a : α) : eqB a a = true := eqB_true.2 rfl
structure Few (m : Msg) : Prop where
  list : m.list.length ≤ 300
  subs : m.subs.length ≤ 60
  ap : m.auth.length + m.prefix_.length ≤ 200
  ni : m.next.length + m.id.length ≤ 200
  ao : m.addr.length + m.orig.length ≤ 200
  data : m.data.length ≤ 300
  ds : ∀ d ∈ m.list, d.addr.length ≤ 50
  ss : ∀ s ∈ m.subs, s.data.length ≤ 300
structure Lite (m : Msg) : Prop where
  list : m.list.length ≤ 1000
  subs : m.subs.length ≤ 1000
  auth : m.auth.length ≤ 400
  pre : m.prefix_.length ≤ 400
  next : m.next.length ≤ 400
  id : m.id.length ≤ 400
  addr : m.addr.length ≤ 400
  orig : m.orig.length ≤ 400
  data : m.data.length ≤ 400
  ds : ∀ d ∈ m.list, d.addr.length ≤ 50
  ss : ∀ s ∈ m.subs, s.data.length ≤ 300
theorem Few.lite {m : Msg} (h : Few m) : Lite m := by
  have := h.list; have := h.subs; have := h.ap; have := h.ni; have := h.ao; have := h.data
  exact ⟨by omega, by omega, by omega, by omega, by omega, by omega, by omega, by omega, by omega, h.ds, h.ss⟩
theorem Lite.fewS {m : Msg} (h : Lite m) : FewS m.subs := ⟨by have := h.subs; omega, h.ss⟩
def GoodMsg (m : Msg) : Prop := m.auth.length ≤ 140737488351232 ∧ m.prefix_.length ≤ 140737488351232 ∧ m.next.length ≤ 140737488351232 ∧ m.id.length ≤ 140737488351232 ∧ m.addr.length ≤ 140737488351232 ∧ m.orig.length ≤ 140737488351232
theorem few1_loop {m0 : Msg} {n : Nat} (h1 : m0.subs.length ≤ 60) : ∀ (d m i : Nat), i + d = m0.subs.length → d < m → L_ref07_Few_1 n m m0 i = some (((m0.subs.drop i).all fun s => decide (s.data.length ≤ 300), ()), ()) := by
  intro d
  induction d with
  | zero =>
    intro m i hd hm
    obtain ⟨m, rfl⟩ : ∃ k, m = k + 1 := ⟨m - 1, by omega⟩
    rw [L_ref07_Few_1_eq, ifn (by omega), List.drop_eq_nil_of_le (by omega)]; rfl
  | succ d ih =>
    intro m i hd hm
    obtain ⟨m, rfl⟩ : ∃ k, m = k + 1 := ⟨m - 1, by omega⟩
    have ha : i < m0.subs.length := by omega
    have := ih m (i + 1) (by omega) (by omega)
    rw [show ((i + 1 : Nat) : Int) = (i : Int) + 1 by omega] at this
    rw [L_ref07_Few_1_eq, ifd (by omega), if_pos (by omega), Int.toNat_natCast, bind_at ha, w64 (by omega) (by omega), this, List.drop_eq_getElem_cons ha, List.all_cons]
    by_cases h : 300 < (m0.subs[i].data.length : Int)
    · rw [ifd h, decide_eq_false (by omega)]; rfl
    · rw [ifn h, decide_eq_true (by omega), Bool.true_and]
theorem few0_loop {m0 : Msg} {n : Nat} (h0 : m0.list.length ≤ 300) (h1 : m0.subs.length ≤ 60) (hn : 1000 ≤ n) : ∀ (d m i : Nat), i + d = m0.list.length → d < m → L_ref07_Few_0 n m m0 i = some (((m0.list.drop i).all (fun s => decide (s.addr.length ≤ 50)) && m0.subs.all fun s => decide (s.data.length ≤ 300), ()), ()) := by
  intro d
  induction d with
  | zero =>
    intro m i hd hm
    obtain ⟨m, rfl⟩ : ∃ k, m = k + 1 := ⟨m - 1, by omega⟩
    have := few1_loop (n := n) h1 m0.subs.length n 0 (by omega) (by omega)
    rw [show ((0 : Nat) : Int) = 0 from rfl, List.drop_zero] at this
    rw [L_ref07_Few_0_eq, ifn (by omega), List.drop_eq_nil_of_le (by omega), this]; rfl
  | succ d ih =>
    intro m i hd hm
    obtain ⟨m, rfl⟩ : ∃ k, m = k + 1 := ⟨m - 1, by omega⟩
    have ha : i < m0.list.length := by omega
    have := ih m (i + 1) (by omega) (by omega)
    rw [show ((i + 1 : Nat) : Int) = (i : Int) + 1 by omega] at this
    rw [L_ref07_Few_0_eq, ifd (by omega), if_pos (by omega), Int.toNat_natCast, bind_at ha, w64 (by omega) (by omega), this, List.drop_eq_getElem_cons ha, List.all_cons]
    by_cases h : 50 < (m0.list[i].addr.length : Int)
    · rw [ifd h, decide_eq_false (by omega)]; rfl
    · rw [ifn h, decide_eq_true (by omega), Bool.true_and]
theorem few_is {m : Msg} (g : GoodMsg m) : ∃ b, g_ref07_Few (m, ()) = some ((b, ()), ()) ∧ (b = true → Few m) := by
  obtain ⟨g1, g2, g3, g4, g5, g6⟩ := g
  show ∃ b, h_ref07_Few fuel _ = _ ∧ _
  rw [h_ref07_Few_eq, w64 (by omega) (by omega), w64 (by omega) (by omega), w64 (by omega) (by omega)]
  by_cases c1 : (300 : Int) < m.list.length
  · rw [ifd c1]; exact ⟨_, rfl, by simp⟩
  by_cases c2 : (60 : Int) < m.subs.length
  · rw [ifn c1, ifd c2]; exact ⟨_, rfl, by simp⟩
  by_cases c3 : (200 : Int) < m.auth.length + m.prefix_.length
  · rw [ifn c1, ifn c2, ifd c3]; exact ⟨_, rfl, by simp⟩
  by_cases c4 : (200 : Int) < m.next.length + m.id.length
  · rw [ifn c1, ifn c2, ifn c3, ifd c4]; exact ⟨_, rfl, by simp⟩
  by_cases c5 : (200 : Int) < m.addr.length + m.orig.length
  · rw [ifn c1, ifn c2, ifn c3, ifn c4, ifd c5]; exact ⟨_, rfl, by simp⟩
  by_cases c6 : (300 : Int) < m.data.length
  · rw [ifn c1, ifn c2, ifn c3, ifn c4, ifn c5, ifd c6]; exact ⟨_, rfl, by simp⟩
  have := few0_loop (m0 := m) (n := fuel) (by omega) (by omega) (Nat.le_of_lt (fuel_ge (by omega))) m.list.length fuel 0 (by omega) (fuel_ge (by omega))
  rw [show ((0 : Nat) : Int) = 0 from rfl, List.drop_zero] at this
  rw [ifn c1, ifn c2, ifn c3, ifn c4, ifn c5, ifn c6, this]
  refine ⟨_, rfl, fun h => ?_⟩
  simp only [Bool.and_eq_true, List.all_eq_true, decide_eq_true_eq] at h
  exact ⟨by omega, by omega, by omega, by omega, by omega, by omega, h.1, h.2⟩
def bareOf (m : Msg) : Option Msg :=
  if m.kind = 1 then some ⟨m.kind, m.cmd, m.ver, m.auth, m.family, 0, m.prefix_, m.plen, m.tag, m.next, m.metric, [], 0, 0, 0, 0, 0, 0, 0, [], [], [], 0, [], []⟩
  else if m.kind = 2 then some ⟨m.kind, m.cmd, 0, [], 0, 0, m.prefix_, m.plen, m.tag, m.next, m.metric, [], 0, 0, 0, 0, 0, 0, 0, [], [], [], 0, [], []⟩
  else if m.kind = 3 then some ⟨m.kind, 0, 0, [], 0, 0, [], 0, 0, [], 0, [], m.seq, m.seq2, 0, m.flags, m.hops, m.nonce, 0, m.addr, m.orig, [], 0, [], m.subs⟩
  else if m.kind = 4 then some ⟨m.kind, 0, 0, [], 0, 0, [], m.plen, 0, [], 0, [], m.seq, 0, m.interval, m.flags, m.hops, 0, 0, m.addr, m.orig, [], 0, [], m.subs⟩
  else if m.kind = 5 then some ⟨m.kind, 0, 0, [], 0, 0, [], 0, 0, [], 0, [], 0, 0, 0, m.flags, 0, 0, 0, [], [], m.list, 0, [], m.subs⟩
  else if m.kind = 6 then some ⟨m.kind, 0, 0, [], 0, 0, [], 0, 0, [], 0, [], 0, 0, 0, 0, 0, 0, 0, [], [], [], 0, [], m.subs⟩
  else if m.kind = 7 then some ⟨m.kind, 0, 0, [], 0, 0, [], 0, 0, [], 0, [], 0, 0, m.interval, 0, 0, m.nonce, 0, [], [], [], 0, [], m.subs⟩
  else if m.kind = 8 then some ⟨m.kind, 0, 0, [], 0, 0, [], 0, 0, [], 0, [], 0, 0, 0, 0, 0, m.nonce, 0, [], [], [], 0, [], m.subs⟩
  else if m.kind = 9 then some ⟨m.kind, 0, 0, [], 0, 0, [], 0, 0, [], 0, [], m.seq, 0, m.interval, m.flags, 0, 0, 0, [], [], [], 0, [], m.subs⟩
  else if m.kind = 10 then some ⟨m.kind, 0, 0, [], 0, m.ae, [], 0, 0, [], 0, [], 0, 0, m.interval, 0, 0, 0, m.cost, m.addr, [], [], 0, [], m.subs⟩
  else if m.kind = 11 then some ⟨m.kind, 0, 0, [], 0, m.ae, m.prefix_, m.plen, 0, m.next, m.metric, m.id, m.seq, 0, m.interval, 0, 0, 0, 0, [], [], [], 0, [], m.subs⟩
  else if m.kind = 12 then some ⟨m.kind, 0, 0, [], 0, m.ae, m.prefix_, m.plen, 0, [], 0, [], 0, 0, 0, 0, 0, 0, 0, [], [], [], 0, [], m.subs⟩
  else if m.kind = 13 then some ⟨m.kind, 0, 0, [], 0, m.ae, m.prefix_, m.plen, 0, [], 0, m.id, m.seq, 0, 0, 0, m.hops, 0, 0, [], [], [], 0, [], m.subs⟩
  else if m.kind = 14 then some ⟨m.kind, 0, 0, [], 0, 0, [], 0, 0, [], 0, [], 0, 0, 0, 0, 0, 0, 0, [], [], [], m.type_, m.data, []⟩
  else none
noncomputable def bareB (m : Msg) : Bool := match bareOf m with | some x => eqB x m | none => false
theorem bq_step {R : Type} {x y : Int} {f t r : R} (heq : x = y → t = r) (hne : x ≠ y → f = r) : (if (x == y) = true then t else f) = r := by
  by_cases h : x = y
  · rw [if_pos (by simp [h])]; exact heq h
  · rw [if_neg (by simp [h])]; exact hne h
theorem band3 {A B C S : Bool} (h : S = (A && B && C)) : (if A = true then (if B = true then (some ((C, ()), ()) : Option ((Bool × Unit) × Unit)) else some ((false, ()), ())) else some ((false, ()), ())) = some ((S, ()), ()) := by
  subst h; cases A <;> cases B <;> rfl
theorem band2 {A B S : Bool} (h : S = (A && B)) : (if A = true then (if B = true then (some ((true, ()), ()) : Option ((Bool × Unit) × Unit)) else some ((false, ()), ())) else some ((false, ()), ())) = some ((S, ()), ()) := by
  subst h; cases A <;> cases B <;> rfl
theorem band1 {A S : Bool} (h : S = A) : (if A = true then (some ((true, ()), ()) : Option ((Bool × Unit) × Unit)) else some ((false, ()), ())) = some ((S, ()), ()) := by
  subst h; cases S <;> rfl
theorem eqB_true' {α : Type} {a b : α} : eqB a b = true ↔ b = a := by rw [eqB_true]; exact eq_comm
theorem len_nil {α : Type} (l : List α) : ((l.length : Int) = 0) ↔ l = [] := by cases l <;> simp; omega
theorem bare_is {m : Msg} : g_msg_Bare (m, ()) = some ((bareB m, ()), ()) := by
  obtain ⟨kind, cmd, ver, auth, family, ae, pre, plen, tag, next, metric, id, seq, seq2, interval, flags, hops, nonce, cost, addr, orig, list, typ, data, subs⟩ := m
  rw [g_msg_Bare_eq, g_msg_strip_eq, Option.bind_some]
  dsimp only
  repeat' first | (exfalso; omega) | refine bq_step (fun h => ?_) (fun h => ?_)
  all_goals first | refine band3 ?_ | refine band2 ?_ | refine band1 ?_ | skip
  all_goals (try (subst kind))
  all_goals rw [bareB, bareOf]
  all_goals (try simp only [*, if_true, if_false])
  all_goals first | rfl | skip
  all_goals rw [Bool.eq_iff_iff]
  all_goals simp only [eqB_true', S_api_Msg.mk.injEq, Bool.and_eq_true, beq_iff_eq, len_nil]
  all_goals (simp only [true_and, and_true, and_self]; first | done | (constructor <;> (intro h; simp only [h, and_self])))
end Go.VP
