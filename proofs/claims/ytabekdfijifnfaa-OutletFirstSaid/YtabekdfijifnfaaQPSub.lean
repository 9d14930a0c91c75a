/- Subs: whether they may be, their bytes, those of bytes. -/
import Derived.Test.YtabekdfijifnfaaQFQ0
import Derived.Test.YtabekdfijifnfaaQFQ1
import Derived.Test.YtabekdfijifnfaaQFQ2
import Derived.Test.YtabekdfijifnfaaQFQ3
import Derived.Test.YtabekdfijifnfaaQFQ5
import Derived.Test.YtabekdfijifnfaaQFQ9
import Derived.Test.YtabekdfijifnfaaQPBase
import Derived.Test.YtabekdfijifnfaaQPCur
import Derived.Test.YtabekdfijifnfaaQPOct
import Derived.Test.YtabekdfijifnfaaQPTlv
set_option linter.unusedVariables false
set_option linter.unusedSimpArgs false
set_option maxRecDepth 100000
namespace Go.VP
open Go Go.VI
def sumN : List Sub → Int
  | [] => 0
  | y :: l => 2 + (y.data.length : Int) + sumN l
def FewS (l : List Sub) : Prop := l.length ≤ 1000000000 ∧ ∀ y ∈ l, y.data.length ≤ 300
theorem FewS.tail {y : Sub} {l : List Sub} (h : FewS (y :: l)) : FewS l := ⟨by have := h.1; simp at this; omega, fun z hz => h.2 z (List.mem_cons_of_mem _ hz)⟩
theorem FewS.drop {l : List Sub} (h : FewS l) (i : Nat) : FewS (l.drop i) := ⟨by have := h.1; simp; omega, fun y hy => h.2 y (List.mem_of_mem_drop hy)⟩
theorem bytes_loop {l : List Sub} {n : Nat} (hl : FewS l) : ∀ (d m i : Nat) (acc : Int), i + d = l.length → d < m → 0 ≤ acc → acc ≤ 302 * i →
    L_msg_Bytes_0 n m l acc i = some ((acc + sumN (l.drop i), ()), ()) := by
  have h1 := hl.1
  intro d
  induction d with
  | zero =>
    intro m i acc hd hm h2 h3
    obtain ⟨m, rfl⟩ : ∃ k, m = k + 1 := ⟨m - 1, by omega⟩
    rw [L_msg_Bytes_0_eq, ifn (by omega), List.drop_eq_nil_of_le (by omega)]
    simp [sumN]
  | succ d ih =>
    intro m i acc hd hm h2 h3
    obtain ⟨m, rfl⟩ : ∃ k, m = k + 1 := ⟨m - 1, by omega⟩
    have hlt : i < l.length := by omega
    have hy := hl.2 l[i] (List.getElem_mem hlt)
    rw [L_msg_Bytes_0_eq, ifd (by omega), if_pos (by omega), Int.toNat_natCast, bind_at hlt, w64 (x := 2 + (l[i].data.length : Int)) (by omega) (by omega), w64 (x := acc + (2 + (l[i].data.length : Int))) (by omega) (by omega), w64 (x := (i : Int) + 1) (by omega) (by omega)]
    have := ih m (i + 1) (acc + (2 + (l[i].data.length : Int))) (by omega) (by omega) (by omega) (by omega)
    rw [show ((i + 1 : Nat) : Int) = (i : Int) + 1 by omega] at this
    rw [this, List.drop_eq_getElem_cons hlt, sumN, Int.add_assoc]
theorem bytes_is {l : List Sub} (hl : FewS l) : g_msg_Bytes (l, ()) = some ((sumN l, ()), ()) := by
  show h_msg_Bytes fuel _ = _
  have := hl.1
  rw [h_msg_Bytes_eq]
  have := bytes_loop (n := fuel) hl l.length fuel 0 0 (by omega) (fuel_ge (by omega)) (by omega) (by omega)
  simpa using this
theorem rbytes_loop {l : List Sub} {n : Nat} (hl : FewS l) : ∀ (d m i : Nat) (acc : Int), i + d = l.length → d < m → 0 ≤ acc → acc ≤ 302 * i →
    L_ref07_Bytes_0 n m l acc i = some ((acc + sumN (l.drop i), ()), ()) := by
  have h1 := hl.1
  intro d
  induction d with
  | zero =>
    intro m i acc hd hm h2 h3
    obtain ⟨m, rfl⟩ : ∃ k, m = k + 1 := ⟨m - 1, by omega⟩
    rw [L_ref07_Bytes_0_eq, ifn (by omega), List.drop_eq_nil_of_le (by omega)]
    simp [sumN]
  | succ d ih =>
    intro m i acc hd hm h2 h3
    obtain ⟨m, rfl⟩ : ∃ k, m = k + 1 := ⟨m - 1, by omega⟩
    have hlt : i < l.length := by omega
    have hy := hl.2 l[i] (List.getElem_mem hlt)
    rw [L_ref07_Bytes_0_eq, ifd (by omega), if_pos (by omega), Int.toNat_natCast, bind_at hlt, w64 (x := acc + 2) (by omega) (by omega), w64 (x := acc + 2 + (l[i].data.length : Int)) (by omega) (by omega), w64 (x := (i : Int) + 1) (by omega) (by omega)]
    have := ih m (i + 1) (acc + 2 + (l[i].data.length : Int)) (by omega) (by omega) (by omega) (by omega)
    rw [show ((i + 1 : Nat) : Int) = (i : Int) + 1 by omega] at this
    rw [this, List.drop_eq_getElem_cons hlt, sumN, Int.add_assoc, Int.add_assoc, Int.add_assoc]
theorem rbytes_is {l : List Sub} (hl : FewS l) : g_ref07_Bytes (l, ()) = some ((sumN l, ()), ()) := by
  show h_ref07_Bytes fuel _ = _
  have := hl.1
  rw [h_ref07_Bytes_eq]
  have := rbytes_loop (n := fuel) hl l.length fuel 0 0 (by omega) (fuel_ge (by omega)) (by omega) (by omega)
  simpa using this
def subB (lo hi : Int) (y : Sub) : Bool := decide (lo ≤ y.type_ ∧ y.type_ ≤ hi ∧ y.data.length ≤ 255)
theorem subs_loop {l : List Sub} {n : Nat} (h1 : l.length ≤ 1000000000) (lo hi : Int) : ∀ (d m i : Nat), i + d = l.length → d < m →
    L_msg_Subs_0 n m lo hi l i = some (((l.drop i).all (subB lo hi), ()), ()) := by
  intro d
  induction d with
  | zero =>
    intro m i hd hm
    obtain ⟨m, rfl⟩ : ∃ k, m = k + 1 := ⟨m - 1, by omega⟩
    rw [L_msg_Subs_0_eq, ifn (by omega), List.drop_eq_nil_of_le (by omega)]
    rfl
  | succ d ih =>
    intro m i hd hm
    obtain ⟨m, rfl⟩ : ∃ k, m = k + 1 := ⟨m - 1, by omega⟩
    have hlt : i < l.length := by omega
    have := ih m (i + 1) (by omega) (by omega)
    rw [show ((i + 1 : Nat) : Int) = (i : Int) + 1 by omega] at this
    rw [L_msg_Subs_0_eq, ifd (by omega), if_pos (by omega), Int.toNat_natCast, bind_at hlt, w64 (x := (i : Int) + 1) (by omega) (by omega), this, List.drop_eq_getElem_cons hlt, List.all_cons]
    by_cases a : l[i].type_ < lo
    · rw [ifd a, show subB lo hi l[i] = false by simp [subB]; omega]; rfl
    · rw [ifn a]
      by_cases b : hi < l[i].type_
      · rw [ifd b, show subB lo hi l[i] = false by simp [subB]; omega]; rfl
      · rw [ifn b]
        by_cases c : (255 : Int) < l[i].data.length
        · rw [ifd c, show subB lo hi l[i] = false by simp [subB]; omega]; rfl
        · rw [ifn c, show subB lo hi l[i] = true by simp [subB]; omega, Bool.true_and]
theorem subs_is {l : List Sub} (h1 : l.length ≤ 1000000000) (lo hi : Int) : g_msg_Subs (l, lo, hi, ()) = some ((l.all (subB lo hi), ()), ()) := by
  show h_msg_Subs fuel _ = _
  rw [h_msg_Subs_eq]
  exact subs_loop (n := fuel) h1 lo hi l.length fuel 0 (by omega) (fuel_ge (by omega))
theorem rsubs_loop {l : List Sub} {n : Nat} (h1 : l.length ≤ 1000000000) (lo hi : Int) : ∀ (d m i : Nat), i + d = l.length → d < m →
    L_ref07_Subs_0 n m l lo hi i = some (((l.drop i).all (subB lo hi), ()), ()) := by
  intro d
  induction d with
  | zero =>
    intro m i hd hm
    obtain ⟨m, rfl⟩ : ∃ k, m = k + 1 := ⟨m - 1, by omega⟩
    rw [L_ref07_Subs_0_eq, ifn (by omega), List.drop_eq_nil_of_le (by omega)]
    rfl
  | succ d ih =>
    intro m i hd hm
    obtain ⟨m, rfl⟩ : ∃ k, m = k + 1 := ⟨m - 1, by omega⟩
    have hlt : i < l.length := by omega
    have := ih m (i + 1) (by omega) (by omega)
    rw [show ((i + 1 : Nat) : Int) = (i : Int) + 1 by omega] at this
    have hi' : (0 : Int) ≤ i := by omega
    rw [L_ref07_Subs_0_eq, ifd (by omega)]
    simp only [hi', if_true, Int.toNat_natCast, bind_at hlt]
    rw [w64 (x := (i : Int) + 1) (by omega) (by omega), this, List.drop_eq_getElem_cons hlt, List.all_cons]
    by_cases a : l[i].type_ < lo
    · rw [ifd a, show subB lo hi l[i] = false by simp [subB]; omega]; rfl
    · rw [ifn a]
      by_cases b : hi < l[i].type_
      · rw [ifd b, show subB lo hi l[i] = false by simp [subB]; omega]; rfl
      · rw [ifn b]
        by_cases c : (255 : Int) < l[i].data.length
        · rw [ifd c, show subB lo hi l[i] = false by simp [subB]; omega]; rfl
        · rw [ifn c, show subB lo hi l[i] = true by simp [subB]; omega, Bool.true_and]
theorem rsubs_is {l : List Sub} (h1 : l.length ≤ 1000000000) (lo hi : Int) : g_ref07_Subs (l, lo, hi, ()) = some ((l.all (subB lo hi), ()), ()) := by
  show h_ref07_Subs fuel _ = _
  rw [h_ref07_Subs_eq]
  exact rsubs_loop (n := fuel) h1 lo hi l.length fuel 0 (by omega) (fuel_ge (by omega))
def rightB (l : List Sub) : Bool := l.all (subB 2 127) && decide (sumN l ≤ 200)
theorem sright_is {l : List Sub} (hl : FewS l) : g_sub_Right (l, ()) = some ((rightB l, ()), ()) := by
  rw [g_sub_Right_eq, subs_is hl.1, Option.bind_some, bytes_is hl]
  unfold rightB
  dsimp only
  cases l.all (subB 2 127) <;> rfl
theorem rsright_is {l : List Sub} (hl : FewS l) : g_ref19_Right (l, ()) = some ((rightB l, ()), ()) := by
  rw [g_ref19_Right_eq, rsubs_is hl.1, Option.bind_some, rbytes_is hl]
  unfold rightB
  dsimp only
  cases l.all (subB 2 127) <;> rfl
def encS : List Sub → Bs
  | [] => []
  | y :: l => u8of y.type_ :: u8of y.data.length :: (y.data ++ encS l)
def AllR (l : List Sub) : Prop := ∀ y ∈ l, 2 ≤ y.type_ ∧ y.type_ ≤ 127 ∧ y.data.length ≤ 255
theorem allR_iff {l : List Sub} : l.all (subB 2 127) = true ↔ AllR l := by simp [subB, AllR]
theorem tput_r {y : Sub} (h : 2 ≤ y.type_ ∧ y.type_ ≤ 127 ∧ y.data.length ≤ 255) : tput y.type_ y.data = (u8of y.type_ :: u8of y.data.length :: y.data, true) := by
  unfold tput; rw [if_pos (by omega)]
theorem encS_length : ∀ (l : List Sub), ((encS l).length : Int) = sumN l
  | [] => rfl
  | y :: l => by have := encS_length l; simp [encS, sumN]; omega
theorem sput_loop {l : List Sub} {n : Nat} (hr : AllR l) (h1 : l.length ≤ 1000000) : ∀ (d m i : Nat) (acc : Bs), i + d = l.length → d < m → acc.length ≤ 257 * i →
    L_sub_Put_0 n m l acc i = some ((acc ++ encS (l.drop i), true, ()), ()) := by
  intro d
  induction d with
  | zero =>
    intro m i acc hd hm ha
    obtain ⟨m, rfl⟩ : ∃ k, m = k + 1 := ⟨m - 1, by omega⟩
    rw [L_sub_Put_0_eq, ifn (by omega), List.drop_eq_nil_of_le (by omega), encS, List.append_nil]
  | succ d ih =>
    intro m i acc hd hm ha
    obtain ⟨m, rfl⟩ : ∃ k, m = k + 1 := ⟨m - 1, by omega⟩
    have hlt : i < l.length := by omega
    have hy := hr l[i] (List.getElem_mem hlt)
    have := ih m (i + 1) (acc ++ (u8of l[i].type_ :: u8of l[i].data.length :: l[i].data)) (by omega) (by omega) (by simp; omega)
    rw [show ((i + 1 : Nat) : Int) = (i : Int) + 1 by omega] at this
    rw [L_sub_Put_0_eq, ifd (by omega), if_pos (by omega), Int.toNat_natCast, bind_at hlt, tput_is, tput_r hy, Option.bind_some]
    dsimp only
    rw [if_pos (roomB_of (by simp; omega)), w64 (by omega) (by omega), this, List.drop_eq_getElem_cons hlt, encS]
    simp
theorem rsput_loop {l : List Sub} {n : Nat} (hr : AllR l) (h1 : l.length ≤ 1000000) : ∀ (d m i : Nat) (acc : Bs), i + d = l.length → d < m → acc.length ≤ 257 * i →
    L_ref19_Put_0 n m l acc i = some ((acc ++ encS (l.drop i), true, ()), ()) := by
  intro d
  induction d with
  | zero =>
    intro m i acc hd hm ha
    obtain ⟨m, rfl⟩ : ∃ k, m = k + 1 := ⟨m - 1, by omega⟩
    rw [L_ref19_Put_0_eq, ifn (by omega), List.drop_eq_nil_of_le (by omega), encS, List.append_nil]
  | succ d ih =>
    intro m i acc hd hm ha
    obtain ⟨m, rfl⟩ : ∃ k, m = k + 1 := ⟨m - 1, by omega⟩
    have hlt : i < l.length := by omega
    have hy := hr l[i] (List.getElem_mem hlt)
    have := ih m (i + 1) (acc ++ (u8of l[i].type_ :: u8of l[i].data.length :: l[i].data)) (by omega) (by omega) (by simp; omega)
    rw [show ((i + 1 : Nat) : Int) = (i : Int) + 1 by omega] at this
    rw [L_ref19_Put_0_eq, ifd (by omega), if_pos (by omega), Int.toNat_natCast, bind_at hlt, if_pos (by omega), bind_at hlt, rtput_is, tput_r hy, Option.bind_some]
    dsimp only
    rw [if_pos (maxB_of (by simp; omega)), w64 (by omega) (by omega), this, List.drop_eq_getElem_cons hlt, encS]
    simp
def putS (l : List Sub) : Bs × Bool := if rightB l = true then (encS l, true) else ([], false)
theorem rightB_split {l : List Sub} (h : rightB l = true) : AllR l ∧ sumN l ≤ 200 := by
  simp only [rightB, Bool.and_eq_true, allR_iff, decide_eq_true_eq] at h; exact h
theorem sput_is {l : List Sub} (hl : FewS l) (h1 : l.length ≤ 1000000) : g_sub_Put (l, ()) = some (((putS l).1, (putS l).2, ()), ()) := by
  show h_sub_Put fuel _ = _
  rw [h_sub_Put_eq, sright_is hl, Option.bind_some]
  unfold putS
  dsimp only
  by_cases h : rightB l = true
  · have := sput_loop (n := fuel) (rightB_split h).1 h1 l.length fuel 0 [] (by omega) (fuel_ge (by omega)) (by simp)
    rw [show ((0 : Nat) : Int) = 0 from rfl] at this
    rw [h, ifnt, this, ift]
    simp
  · rw [Bool.not_eq_true] at h
    rw [h, ifnf, iff_]
theorem rsput_is {l : List Sub} (hl : FewS l) (h1 : l.length ≤ 1000000) : g_ref19_Put (l, ()) = some (((putS l).1, (putS l).2, ()), ()) := by
  show h_ref19_Put fuel _ = _
  rw [h_ref19_Put_eq, rsright_is hl, Option.bind_some]
  unfold putS
  dsimp only
  by_cases h : rightB l = true
  · have := rsput_loop (n := fuel) (rightB_split h).1 h1 l.length fuel 0 [] (by omega) (fuel_ge (by omega)) (by simp)
    rw [show ((0 : Nat) : Int) = 0 from rfl] at this
    rw [h, ifnt, this, ift]
    simp
  · rw [Bool.not_eq_true] at h
    rw [h, ifnf, iff_]
def keep : List Tlv → List Sub
  | [] => []
  | t :: l => if 2 ≤ t.type_ ∧ t.type_ ≤ 127 then ⟨t.type_, t.data⟩ :: keep l else keep l
def free (l : List Tlv) : Bool := l.all fun t => decide (t.type_ ≤ 127)
theorem free_cons (t : Tlv) (l : List Tlv) : free (t :: l) = (decide (t.type_ ≤ 127) && free l) := rfl
theorem keep_length : ∀ (l : List Tlv), (keep l).length ≤ l.length
  | [] => Nat.le_refl _
  | t :: l => by have := keep_length l; simp only [keep]; split <;> simp <;> omega
def endS (acc : List Sub) (b : Bool) : List Sub × Bool × Int := if 200 < sumN acc then ([], false, 10) else (acc, b, 0)
def ShortT (l : List Tlv) : Prop := ∀ t ∈ l, t.data.length ≤ 255
theorem rendS_is {acc : List Sub} {b : Bool} (hl : FewS acc) : (g_ref07_Bytes (acc, ())).bind (fun r3 => (if (decide (200 < r3.1.1)) = true then some (([], false, 10, ()), ()) else some ((acc, b, 0, ()), ()))) = some (trip (endS acc b), ()) := by
  rw [rbytes_is hl, Option.bind_some]
  unfold endS
  by_cases h : 200 < sumN acc
  · rw [ifd h, if_pos h]
  · rw [ifn h, if_neg h]
theorem FewS.app {a b : List Sub} (h : ∀ y ∈ a, y.data.length ≤ 300) (h2 : ∀ y ∈ b, y.data.length ≤ 300) (h3 : a.length + b.length ≤ 1000000000) : FewS (a ++ b) :=
  ⟨by simpa using h3, fun y hy => (List.mem_append.1 hy).elim (h y) (h2 y)⟩
theorem rsget_loop {l : List Tlv} {x : Int × Int × Unit} {n : Nat} (hs : ShortT l) (h1 : l.length ≤ 1000000) : ∀ (d m i : Nat) (acc : List Sub) (b : Bool), i + d = l.length → d < m → acc.length ≤ i → (∀ y ∈ acc, y.data.length ≤ 300) →
    L_ref19_Get_0 n m ((l, x), ()) acc b i = some (trip (endS (acc ++ keep (l.drop i)) (b && free (l.drop i))), ()) := by
  intro d
  induction d with
  | zero =>
    intro m i acc b hd hm ha hb
    obtain ⟨m, rfl⟩ : ∃ k, m = k + 1 := ⟨m - 1, by omega⟩
    rw [L_ref19_Get_0_eq]
    dsimp only
    rw [ifn (by omega), List.drop_eq_nil_of_le (by omega), rendS_is ⟨by omega, hb⟩]
    simp [keep, free]
  | succ d ih =>
    intro m i acc b hd hm ha hb
    obtain ⟨m, rfl⟩ : ∃ k, m = k + 1 := ⟨m - 1, by omega⟩
    have hlt : i < l.length := by omega
    have hy := hs l[i] (List.getElem_mem hlt)
    have hroom : ∀ x : Sub, roomB ((acc.length + [x].length) * bo_api_Sub) = true := fun x => room_mul (by simp; omega) subBo
    have hi' : (0 : Int) ≤ i := by omega
    rw [L_ref19_Get_0_eq]
    dsimp only
    rw [ifd (by omega)]
    simp only [hi', if_true, Int.toNat_natCast, bind_at hlt, hroom]
    rw [w64 (by omega) (by omega), List.drop_eq_getElem_cons hlt]
    have e : (i : Int) + 1 = ((i + 1 : Nat) : Int) := by omega
    rw [e]
    have h2 : ∀ b, L_ref19_Get_0 n m ((l, x), ()) acc b ((i + 1 : Nat) : Int) = some (trip (endS (acc ++ keep (l.drop (i + 1))) (b && free (l.drop (i + 1)))), ()) := fun b => ih m (i + 1) acc b (by omega) (by omega) (by omega) hb
    have h3 : ∀ b, L_ref19_Get_0 n m ((l, x), ()) (acc ++ [⟨l[i].type_, l[i].data⟩]) b ((i + 1 : Nat) : Int) = some (trip (endS (acc ++ [⟨l[i].type_, l[i].data⟩] ++ keep (l.drop (i + 1))) (b && free (l.drop (i + 1)))), ()) := fun b => ih m (i + 1) _ b (by omega) (by omega) (by simp; omega) (fun y hy' => (List.mem_append.1 hy').elim (hb y) (fun h => by simp at h; subst h; dsimp only; omega))
    simp only [h2, h3]
    by_cases c2 : 2 ≤ l[i].type_
    · rw [ifd c2]
      by_cases c1 : l[i].type_ ≤ 127
      · rw [ifd c1, keep, if_pos (show 2 ≤ l[i].type_ ∧ l[i].type_ ≤ 127 from ⟨c2, c1⟩), free_cons, decide_eq_true c1]
        cases b <;> simp
      · rw [ifn c1, keep, if_neg (show ¬ (2 ≤ l[i].type_ ∧ l[i].type_ ≤ 127) by omega), free_cons, decide_eq_false c1]
        cases b <;> simp
    · have c1 : l[i].type_ ≤ 127 := by omega
      rw [ifn c2, keep, if_neg (show ¬ (2 ≤ l[i].type_ ∧ l[i].type_ ≤ 127) by omega), free_cons, decide_eq_true c1]
      cases b <;> simp
def getS (s : Bs) : List Sub × Bool × Int :=
  match spl 0 s with
  | .ok l => endS (keep l) (free l)
  | .error _ => ([], false, 2)
theorem spl_ok (s : Bs) : ∀ (p : Int) (l : List Tlv), spl p s = .ok l → ShortT l ∧ l.length ≤ s.length := by
  match s with
  | [] => intro p l h; rw [spl_nil] at h; injection h with h; subst h; exact ⟨fun t h => by simp at h, Nat.le_refl _⟩
  | t :: r =>
    intro p l h
    have go : ∀ (q : Int) (x : Tlv) (r' : Bs), r'.length < (t :: r).length → x.data.length ≤ 255 → (spl q r').map (x :: ·) = .ok l → ShortT l ∧ l.length ≤ (t :: r).length := by
      intro q x r' hr hx h
      cases hm : spl q r' with
      | error e => rw [hm] at h; cases h
      | ok l' =>
        rw [hm] at h
        injection h with h
        subst h
        obtain ⟨a, b⟩ := spl_ok r' q l' hm
        exact ⟨fun y hy => (List.mem_cons.1 hy).elim (fun h => by subst h; exact hx) (a y), by simp only [List.length_cons] at *; omega⟩
    by_cases ht : t = 0
    · subst ht
      rw [spl_zero] at h
      exact go _ _ _ (by simp) (by simp) h
    · match r with
      | [] => rw [spl_one ht] at h; cases h
      | n :: d =>
        by_cases hn : d.length < n.toNat
        · rw [spl_bad ht hn] at h; cases h
        · rw [spl_all ht (by omega)] at h
          have := n.toNat_lt
          exact go _ _ _ (by simp; omega) (by simp; omega) h
termination_by s.length
theorem rsget_is {s : Bs} (h : s.length ≤ 1000000) : g_ref19_Get (s, ()) = some (trip (getS s), ()) := by
  show h_ref19_Get fuel _ = _
  rw [h_ref19_Get_eq, rsplit_is (by omega) (by omega), Option.bind_some]
  unfold getS
  cases hm : spl 0 s with
  | error e => rfl
  | ok l =>
    obtain ⟨h1, h2⟩ := spl_ok s 0 l hm
    have := rsget_loop (x := (0, 0, ())) (n := fuel) h1 (by omega) l.length fuel 0 [] true (by omega) (fuel_ge (by omega)) (by simp) (by simp)
    show L_ref19_Get_0 fuel fuel ((l, 0, 0, ()), ()) [] true 0 = _
    simpa using this
end Go.VP
