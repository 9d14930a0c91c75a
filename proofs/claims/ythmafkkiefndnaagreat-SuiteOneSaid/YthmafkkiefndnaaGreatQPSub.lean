/- Subs: whether they may be, their bytes, those of bytes. -/
import Derived.Test.YthmafkkiefndnaaGreatQFH
import Derived.Test.YthmafkkiefndnaaGreatQFQ3
import Derived.Test.YthmafkkiefndnaaGreatQFQ5
import Derived.Test.YthmafkkiefndnaaGreatQFQ6
import Derived.Test.YthmafkkiefndnaaGreatQFQ7
import Derived.Test.YthmafkkiefndnaaGreatQPBase
import Derived.Test.YthmafkkiefndnaaGreatQPCur
import Derived.Test.YthmafkkiefndnaaGreatQPOct
import Derived.Test.YthmafkkiefndnaaGreatQPTlv
set_option linter.unusedVariables false
set_option linter.unusedSimpArgs false
set_option maxRecDepth 100000
namespace Go.VP
open Go Go.VI
def sumN : List Sub → Int
  | [] => 0
  | y :: l => 2 + (y.data.length : Int) + sumN l
def FewS (l : List Sub) : Prop := l.length ≤ 1000000000 ∧ ∀ y ∈ l, y.data.length ≤ 300
theorem FewS.tail {y : Sub} {l : List Sub} (h : FewS (y :: l)) : FewS l := ⟨by have := h.1; simp at this; omega, fun z hz => h.2 z (List.mem_cons_of_mem _ hz)⟩
theorem FewS.drop {l : List Sub} (h : FewS l) (i : Nat) : FewS (l.drop i) := ⟨by have := h.1; simp; omega, fun y hy => h.2 y (List.mem_of_mem_drop hy)⟩
theorem bytes_loop {l : List Sub} {n : Nat} (hl : FewS l) : ∀ (d m i : Nat) (acc : Int), i + d = l.length → d < m → 0 ≤ acc → acc ≤ 302 * i →
    L_msg_Bytes_0 n m l acc i = some ((acc + sumN (l.drop i), ()), ()) := by
  have h1 := hl.1
  intro d
  induction d with
  | zero =>
    intro m i acc hd hm h2 h3
    obtain ⟨m, rfl⟩ : ∃ k, m = k + 1 := ⟨m - 1, by omega⟩
    rw [L_msg_Bytes_0_eq, ifn (by omega), List.drop_eq_nil_of_le (by omega)]
    simp [sumN]
  | succ d ih =>
    intro m i acc hd hm h2 h3
    obtain ⟨m, rfl⟩ : ∃ k, m = k + 1 := ⟨m - 1, by omega⟩
    have hlt : i < l.length := by omega
    have hy := hl.2 l[i] (List.getElem_mem hlt)
    rw [L_msg_Bytes_0_eq, ifd (by omega), if_pos (by omega), Int.toNat_natCast, bind_at hlt, w64 (x := 2 + (l[i].data.length : Int)) (by omega) (by omega), w64 (x := acc + (2 + (l[i].data.length : Int))) (by omega) (by omega), w64 (x := (i : Int) + 1) (by omega) (by omega)]
    have := ih m (i + 1) (acc + (2 + (l[i].data.length : Int))) (by omega) (by omega) (by omega) (by omega)
    rw [show ((i + 1 : Nat) : Int) = (i : Int) + 1 by omega] at this
    rw [this, List.drop_eq_getElem_cons hlt, sumN, Int.add_assoc]
theorem bytes_is {l : List Sub} (hl : FewS l) : g_msg_Bytes (l, ()) = some ((sumN l, ()), ()) := by
  show h_msg_Bytes fuel _ = _
  have := hl.1
  rw [h_msg_Bytes_eq]
  have := bytes_loop (n := fuel) hl l.length fuel 0 0 (by omega) (fuel_ge (by omega)) (by omega) (by omega)
  simpa using this
def subB (lo hi : Int) (y : Sub) : Bool := decide (lo ≤ y.type_ ∧ y.type_ ≤ hi ∧ y.data.length ≤ 255)
theorem subs_loop {l : List Sub} {n : Nat} (h1 : l.length ≤ 1000000000) (lo hi : Int) : ∀ (d m i : Nat), i + d = l.length → d < m →
    L_msg_Subs_0 n m lo hi l i = some (((l.drop i).all (subB lo hi), ()), ()) := by
  intro d
  induction d with
  | zero =>
    intro m i hd hm
    obtain ⟨m, rfl⟩ : ∃ k, m = k + 1 := ⟨m - 1, by omega⟩
    rw [L_msg_Subs_0_eq, ifn (by omega), List.drop_eq_nil_of_le (by omega)]
    rfl
  | succ d ih =>
    intro m i hd hm
    obtain ⟨m, rfl⟩ : ∃ k, m = k + 1 := ⟨m - 1, by omega⟩
    have hlt : i < l.length := by omega
    have := ih m (i + 1) (by omega) (by omega)
    rw [show ((i + 1 : Nat) : Int) = (i : Int) + 1 by omega] at this
    rw [L_msg_Subs_0_eq, ifd (by omega), if_pos (by omega), Int.toNat_natCast, bind_at hlt, w64 (x := (i : Int) + 1) (by omega) (by omega), this, List.drop_eq_getElem_cons hlt, List.all_cons]
    by_cases a : l[i].type_ < lo
    · rw [ifd a, show subB lo hi l[i] = false by simp [subB]; omega]; rfl
    · rw [ifn a]
      by_cases b : hi < l[i].type_
      · rw [ifd b, show subB lo hi l[i] = false by simp [subB]; omega]; rfl
      · rw [ifn b]
        by_cases c : (255 : Int) < l[i].data.length
        · rw [ifd c, show subB lo hi l[i] = false by simp [subB]; omega]; rfl
        · rw [ifn c, show subB lo hi l[i] = true by simp [subB]; omega, Bool.true_and]
theorem subs_is {l : List Sub} (h1 : l.length ≤ 1000000000) (lo hi : Int) : g_msg_Subs (l, lo, hi, ()) = some ((l.all (subB lo hi), ()), ()) := by
  show h_msg_Subs fuel _ = _
  rw [h_msg_Subs_eq]
  exact subs_loop (n := fuel) h1 lo hi l.length fuel 0 (by omega) (fuel_ge (by omega))
def rightB (l : List Sub) : Bool := l.all (subB 2 127) && decide (sumN l ≤ 200)
theorem sright_is {l : List Sub} (hl : FewS l) : g_sub_Right (l, ()) = some ((rightB l, ()), ()) := by
  rw [g_sub_Right_eq, subs_is hl.1, Option.bind_some, bytes_is hl]
  unfold rightB
  dsimp only
  cases l.all (subB 2 127) <;> rfl
def AllR (l : List Sub) : Prop := ∀ y ∈ l, 2 ≤ y.type_ ∧ y.type_ ≤ 127 ∧ y.data.length ≤ 255
def keep : List Tlv → List Sub
  | [] => []
  | t :: l => if 2 ≤ t.type_ ∧ t.type_ ≤ 127 then ⟨t.type_, t.data⟩ :: keep l else keep l
theorem FewS.app {a b : List Sub} (h : ∀ y ∈ a, y.data.length ≤ 300) (h2 : ∀ y ∈ b, y.data.length ≤ 300) (h3 : a.length + b.length ≤ 1000000000) : FewS (a ++ b) :=
  ⟨by simpa using h3, fun y hy => (List.mem_append.1 hy).elim (h y) (h2 y)⟩
end Go.VP
