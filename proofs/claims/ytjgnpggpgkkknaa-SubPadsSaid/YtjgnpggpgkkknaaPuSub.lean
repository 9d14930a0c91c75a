/- Subs of Babel: what the program and the document make of them. -/
import Derived.Test.YtjgnpggpgkkknaaPr13
import Derived.Test.YtjgnpggpgkkknaaPr14
import Derived.Test.YtjgnpggpgkkknaaPr15
import Derived.Test.YtjgnpggpgkkknaaPr16
import Derived.Test.YtjgnpggpgkkknaaPuBase
import Derived.Test.YtjgnpggpgkkknaaPuCut
import Derived.Test.YtjgnpggpgkkknaaPuFrame
import Derived.Test.YtjgnpggpgkkknaaPuFrameBk
import Derived.Test.YtjgnpggpgkkknaaPuOctet
import Derived.KernelRfl
import Derived.Shelf.Spec.RuneCount
namespace Go.Proofs.Ytjgnpggpgkkknaa.Pure
open Go.RowKit Go.Proofs.Ytjgnpggpgkkknaa.Pr Go.Proofs.YtjgnpggpgkkknaaW.PrintWords Go.Proofs.YtjgnpggpgkkknaaW.PrintLast Go.Proofs.YtjgnpggpgkkknaaW.PrintMore
set_option linter.unusedVariables false
set_option linter.unusedSimpArgs false
abbrev Sub := S78
def sumN : List Sub → Int
  | [] => 0
  | y :: l => 2 + (y.f1.size : Int) + sumN l
/-- Subs that are few and short enough for all that is reckoned here. -/
def Few (l : List Sub) : Prop := l.length ≤ 1099511627776 ∧ ∀ y ∈ l, y.f1.size ≤ 300
theorem few_tail {y : Sub} {l : List Sub} (h : Few (y :: l)) : Few l := ⟨by have := h.1; simp at this; omega, fun z hz => h.2 z (List.mem_cons_of_mem _ hz)⟩
theorem sumN_rng : ∀ {l : List Sub}, Few l → 0 ≤ sumN l ∧ sumN l ≤ 302 * l.length := by
  intro l
  induction l with
  | nil => intro _; simp [sumN]
  | cons y l ih =>
    intro h
    have := ih (few_tail h)
    have hy := h.2 y (List.mem_cons_self ..)
    simp only [sumN, List.length_cons]
    omega
theorem sumN_append : ∀ (a b : List Sub), sumN (a ++ b) = sumN a + sumN b := by
  intro a b
  induction a with
  | nil => simp [sumN]
  | cons y l ih => simp only [List.cons_append, sumN, ih]; omega
theorem few_drop {l : List Sub} (h : Few l) (i : Nat) : Few (l.drop i) := ⟨by have := h.1; simp; omega, fun y hy => h.2 y (List.mem_of_mem_drop hy)⟩
theorem rd_sub {l : List Sub} {i : Nat} (h : i < l.length) : rd_T78 l (i : Int) = l[i] := by
  unfold rd_T78
  simp [h]
theorem rd_tlv {l : List Tlv} {i : Nat} (h : i < l.length) : rd_T47 l (i : Int) = l[i] := by
  unfold rd_T47
  simp [h]
theorem bytes_loop {l : List Sub} (hl : Few l) : ∀ (d k i : Nat) (acc : Int), l.length - i = d → i ≤ l.length → d < k → 0 ≤ acc → acc ≤ 302 * i →
    msg_Bytes.l0 k acc l (l.length : Int) i = some (acc + sumN (l.drop i)) := by
  have h1 := hl.1
  intro d
  induction d with
  | zero =>
    intro k i acc hd hi hk h2 h3
    obtain ⟨k, rfl⟩ : ∃ m, k = m + 1 := ⟨k - 1, by omega⟩
    rw [msg_Bytes.l0, if_neg (by omega), List.drop_eq_nil_of_le (by omega)]
    simp [sumN]
  | succ d ih =>
    intro k i acc hd hi hk h2 h3
    obtain ⟨k, rfl⟩ : ∃ m, k = m + 1 := ⟨k - 1, by omega⟩
    have hlt : i < l.length := by omega
    have hy := hl.2 l[i] (List.getElem_mem hlt)
    rw [msg_Bytes.l0, if_pos (by omega), if_pos (by omega), if_pos (by omega), rd_sub hlt, w64 (x := 2 + (l[i].f1.size : Int)) (by omega) (by omega), w64 (x := acc + (2 + (l[i].f1.size : Int))) (by omega) (by omega), w64 (x := (i : Int) + 1) (by omega) (by omega)]
    have := ih k (i + 1) (acc + (2 + (l[i].f1.size : Int))) (by omega) (by omega) (by omega) (by omega) (by omega)
    rw [show ((i + 1 : Nat) : Int) = (i : Int) + 1 by omega] at this
    rw [this, List.drop_eq_getElem_cons hlt, sumN]
    congr 1
    omega
theorem bytes_is {l : List Sub} (hl : Few l) {k : Nat} (hk : l.length < k) : msg_Bytes.f k l = some (sumN l) := by
  unfold msg_Bytes.f
  have := bytes_loop hl l.length k 0 0 (by omega) (by omega) hk (by omega) (by omega)
  rw [show ((0 : Nat) : Int) = 0 from rfl] at this
  rw [this]; simp
theorem rbytes_loop {l : List Sub} (hl : Few l) : ∀ (d k i : Nat) (acc : Int), l.length - i = d → i ≤ l.length → d < k → 0 ≤ acc → acc ≤ 302 * i →
    roadbookref07_Bytes.l0 k l acc i = some (acc + sumN (l.drop i)) := by
  have h1 := hl.1
  intro d
  induction d with
  | zero =>
    intro k i acc hd hi hk h2 h3
    obtain ⟨k, rfl⟩ : ∃ m, k = m + 1 := ⟨k - 1, by omega⟩
    rw [roadbookref07_Bytes.l0, if_neg (by omega), List.drop_eq_nil_of_le (by omega)]
    simp [sumN]
  | succ d ih =>
    intro k i acc hd hi hk h2 h3
    obtain ⟨k, rfl⟩ : ∃ m, k = m + 1 := ⟨k - 1, by omega⟩
    have hlt : i < l.length := by omega
    have hy := hl.2 l[i] (List.getElem_mem hlt)
    rw [roadbookref07_Bytes.l0, if_pos (by omega), if_pos (by omega), rd_sub hlt, w64 (x := acc + 2) (by omega) (by omega), w64 (x := acc + 2 + (l[i].f1.size : Int)) (by omega) (by omega), w64 (x := (i : Int) + 1) (by omega) (by omega)]
    have := ih k (i + 1) (acc + 2 + (l[i].f1.size : Int)) (by omega) (by omega) (by omega) (by omega) (by omega)
    rw [show ((i + 1 : Nat) : Int) = (i : Int) + 1 by omega] at this
    rw [this, List.drop_eq_getElem_cons hlt, sumN]
    congr 1
    omega
theorem rbytes_is {l : List Sub} (hl : Few l) {k : Nat} (hk : l.length < k) : roadbookref07_Bytes.f k l = some (sumN l) := by
  unfold roadbookref07_Bytes.f
  have := rbytes_loop hl l.length k 0 0 (by omega) (by omega) hk (by omega) (by omega)
  rw [show ((0 : Nat) : Int) = 0 from rfl] at this
  rw [this]; simp
def subB (lo hi : Int) (y : Sub) : Bool := decide (lo ≤ y.f0 ∧ y.f0 ≤ hi ∧ y.f1.size ≤ 255)
theorem subs_loop {l : List Sub} (h1 : l.length ≤ 1099511627776) (lo hi : Int) : ∀ (d k i : Nat), l.length - i = d → i ≤ l.length → d < k →
    msg_Subs.l0 k lo hi l (l.length : Int) i = some ((l.drop i).all (subB lo hi)) := by
  intro d
  induction d with
  | zero =>
    intro k i hd hi hk
    obtain ⟨k, rfl⟩ : ∃ m, k = m + 1 := ⟨k - 1, by omega⟩
    rw [msg_Subs.l0, if_neg (by omega), List.drop_eq_nil_of_le (by omega)]
    rfl
  | succ d ih =>
    intro k i hd hi' hk
    obtain ⟨k, rfl⟩ : ∃ m, k = m + 1 := ⟨k - 1, by omega⟩
    have hlt : i < l.length := by omega
    have := ih k (i + 1) (by omega) (by omega) (by omega)
    rw [show ((i + 1 : Nat) : Int) = (i : Int) + 1 by omega] at this
    rw [msg_Subs.l0, if_pos (by omega), if_pos (by omega), if_pos (by omega), rd_sub hlt, w64 (x := (i : Int) + 1) (by omega) (by omega), this, List.drop_eq_getElem_cons hlt, List.all_cons]
    by_cases a : l[i].f0 < lo
    · rw [if_pos a]; simp [subB]; omega
    · rw [if_neg a]
      by_cases b : l[i].f0 > hi
      · rw [if_pos b]; simp [subB]; omega
      · rw [if_neg b]
        by_cases c : (l[i].f1.size : Int) > 255
        · rw [if_pos c]; simp [subB]; omega
        · rw [if_neg c, show subB lo hi l[i] = true by simp [subB]; omega, Bool.true_and]
theorem subs_is {l : List Sub} (h1 : l.length ≤ 1099511627776) (lo hi : Int) {k : Nat} (hk : l.length < k) : msg_Subs.f k l lo hi = some (l.all (subB lo hi)) := by
  unfold msg_Subs.f
  exact subs_loop h1 lo hi l.length k 0 (by omega) (by omega) hk
theorem rsubs_loop {l : List Sub} (h1 : l.length ≤ 1099511627776) (lo hi : Int) : ∀ (d k i : Nat), l.length - i = d → i ≤ l.length → d < k →
    roadbookref07_Subs.l0 k l lo hi i = some ((l.drop i).all (subB lo hi)) := by
  intro d
  induction d with
  | zero =>
    intro k i hd hi hk
    obtain ⟨k, rfl⟩ : ∃ m, k = m + 1 := ⟨k - 1, by omega⟩
    rw [roadbookref07_Subs.l0, if_neg (by omega), List.drop_eq_nil_of_le (by omega)]
    rfl
  | succ d ih =>
    intro k i hd hi' hk
    obtain ⟨k, rfl⟩ : ∃ m, k = m + 1 := ⟨k - 1, by omega⟩
    have hlt : i < l.length := by omega
    have := ih k (i + 1) (by omega) (by omega) (by omega)
    rw [show ((i + 1 : Nat) : Int) = (i : Int) + 1 by omega] at this
    rw [roadbookref07_Subs.l0, if_pos (by omega), if_pos (by omega), rd_sub hlt, w64 (x := (i : Int) + 1) (by omega) (by omega), this, List.drop_eq_getElem_cons hlt, List.all_cons]
    by_cases a : l[i].f0 < lo
    · rw [if_pos a]; simp [subB]; omega
    · rw [if_neg a]
      by_cases b : l[i].f0 > hi
      · rw [if_pos b]; simp [subB]; omega
      · rw [if_neg b]
        by_cases c : (l[i].f1.size : Int) > 255
        · rw [if_pos c]; simp [subB]; omega
        · rw [if_neg c, show subB lo hi l[i] = true by simp [subB]; omega, Bool.true_and]
theorem rsubs_is {l : List Sub} (h1 : l.length ≤ 1099511627776) (lo hi : Int) {k : Nat} (hk : l.length < k) : roadbookref07_Subs.f k l lo hi = some (l.all (subB lo hi)) := by
  unfold roadbookref07_Subs.f
  exact rsubs_loop h1 lo hi l.length k 0 (by omega) (by omega) hk
/-- Whether Subs may be. -/
def rightB (l : List Sub) : Bool := l.all (subB 2 127) && decide (sumN l ≤ 200)
theorem right_is {l : List Sub} (hl : Few l) {k : Nat} (hk : l.length < k) : sub_Right.f k l = some (rightB l) := by
  unfold sub_Right.f rightB
  rw [subs_is hl.1 _ _ hk, Option.bind_some]
  by_cases h : l.all (subB 2 127) = true
  · rw [if_pos h, bytes_is hl hk, Option.bind_some, h, Bool.true_and]
  · rw [if_neg h]
    rw [Bool.not_eq_true] at h
    rw [h, Bool.false_and]
theorem rright_is {l : List Sub} (hl : Few l) {k : Nat} (hk : l.length < k) : roadbookref19_Right.f k l = some (rightB l) := by
  unfold roadbookref19_Right.f rightB
  rw [rsubs_is hl.1 _ _ hk, Option.bind_some]
  by_cases h : l.all (subB 2 127) = true
  · rw [if_pos h, rbytes_is hl hk, Option.bind_some, h, Bool.true_and]
  · rw [if_neg h]
    rw [Bool.not_eq_true] at h
    rw [h, Bool.false_and]
/-- The bytes of Subs. -/
def encS : List Sub → ByteArray
  | [] => ⟨#[]⟩
  | y :: l => (strOfNums [y.f0, y.f1.size] ++ y.f1) ++ encS l
def AllR (l : List Sub) : Prop := ∀ y ∈ l, 2 ≤ y.f0 ∧ y.f0 ≤ 127 ∧ y.f1.size ≤ 255
theorem allR_of {l : List Sub} (h : l.all (subB 2 127) = true) : AllR l := by
  intro y hy
  have := List.all_eq_true.mp h y hy
  simpa [subB] using this
theorem allR_to {l : List Sub} (h : AllR l) : l.all (subB 2 127) = true := by
  apply List.all_eq_true.mpr
  intro y hy
  have := h y hy
  simp [subB]
  omega
theorem tput_r {y : Sub} (h : 2 ≤ y.f0 ∧ y.f0 ≤ 127 ∧ y.f1.size ≤ 255) : tputF y.f0 y.f1 = (strOfNums [y.f0, y.f1.size] ++ y.f1, true) := by
  unfold tputF
  rw [if_pos (by omega)]
theorem nums_bytes (b : ByteArray) : strOfNums (bytesOf b) = b := strOfNums_bytes b
theorem sz_tput (y : Sub) : (strOfNums [y.f0, y.f1.size] ++ y.f1).size = 2 + y.f1.size := by rw [size_append, size_nums]; rfl
theorem len_bytes (b : ByteArray) : (bytesOf b).length = b.size := by
  have := congrArg ByteArray.size (nums_bytes b)
  rwa [size_nums] at this
theorem put_loop {l : List Sub} (hr : AllR l) (h1 : l.length ≤ 1000000) : ∀ (d k i : Nat) (acc : List Int), l.length - i = d → i ≤ l.length → d < k → acc.length ≤ 257 * i →
    sub_Put.l0 k acc l (l.length : Int) i = some (strOfNums acc ++ encS (l.drop i), true) := by
  intro d
  induction d with
  | zero =>
    intro k i acc hd hi hk ha
    obtain ⟨k, rfl⟩ : ∃ m, k = m + 1 := ⟨k - 1, by omega⟩
    rw [sub_Put.l0, if_neg (by omega), List.drop_eq_nil_of_le (by omega), encS, append_empty]
  | succ d ih =>
    intro k i acc hd hi hk ha
    obtain ⟨k, rfl⟩ : ∃ m, k = m + 1 := ⟨k - 1, by omega⟩
    have hlt : i < l.length := by omega
    have hy := hr l[i] (List.getElem_mem hlt)
    have := ih k (i + 1) (acc ++ bytesOf (strOfNums [l[i].f0, l[i].f1.size] ++ l[i].f1)) (by omega) (by omega) (by omega) (by rw [List.length_append, len_bytes, sz_tput]; omega)
    rw [show ((i + 1 : Nat) : Int) = (i : Int) + 1 by omega] at this
    rw [sub_Put.l0, if_pos (by omega), if_pos (by omega), if_pos (by omega), rd_sub hlt, tput_is, tput_r hy, Option.bind_some, w64 (x := (i : Int) + 1) (by omega) (by omega)]
    have hz : acc.length + (strOfNums [l[i].f0, l[i].f1.size] ++ l[i].f1).size < 140737488355328 := by rw [sz_tput]; omega
    rw [if_pos hz, this, List.drop_eq_getElem_cons hlt, encS, nums_append, nums_bytes, append_assoc]
theorem rput_loop {l : List Sub} (hr : AllR l) (h1 : l.length ≤ 1000000) : ∀ (d k i : Nat) (acc : ByteArray), l.length - i = d → i ≤ l.length → d < k → acc.size ≤ 257 * i →
    roadbookref19_Put.l0 k l acc i = some (acc ++ encS (l.drop i), true) := by
  intro d
  induction d with
  | zero =>
    intro k i acc hd hi hk ha
    obtain ⟨k, rfl⟩ : ∃ m, k = m + 1 := ⟨k - 1, by omega⟩
    rw [roadbookref19_Put.l0, if_neg (by omega), List.drop_eq_nil_of_le (by omega), encS, append_empty]
  | succ d ih =>
    intro k i acc hd hi hk ha
    obtain ⟨k, rfl⟩ : ∃ m, k = m + 1 := ⟨k - 1, by omega⟩
    have hlt : i < l.length := by omega
    have hy := hr l[i] (List.getElem_mem hlt)
    have := ih k (i + 1) (acc ++ (strOfNums [l[i].f0, l[i].f1.size] ++ l[i].f1)) (by omega) (by omega) (by omega) (by rw [size_append, sz_tput]; omega)
    rw [show ((i + 1 : Nat) : Int) = (i : Int) + 1 by omega] at this
    rw [roadbookref19_Put.l0, if_pos (by omega), if_pos (by omega), rd_sub hlt, rtput_is, tput_r hy, Option.bind_some, w64 (x := (i : Int) + 1) (by omega) (by omega)]
    have hz : acc.size + (strOfNums [l[i].f0, l[i].f1.size] ++ l[i].f1).size ≤ 9223372036854775807 := by rw [sz_tput]; omega
    rw [if_pos hz, this, List.drop_eq_getElem_cons hlt, encS, append_assoc]
def putS (l : List Sub) : ByteArray × Bool := if rightB l = true then (encS l, true) else (⟨#[]⟩, false)
theorem sput_is {l : List Sub} (hl : Few l) (h1 : l.length ≤ 1000000) {k : Nat} (hk : l.length < k) : sub_Put.f k l = some (putS l) := by
  unfold sub_Put.f putS
  rw [right_is hl hk, Option.bind_some]
  by_cases h : rightB l = true
  · rw [if_pos h, if_pos h]
    have hr := allR_of (Bool.and_eq_true_iff.mp h).1
    have := put_loop hr h1 l.length k 0 [] (by omega) (by omega) hk (by simp)
    rw [show ((0 : Nat) : Int) = 0 from rfl] at this
    rw [this, List.drop_zero, show strOfNums [] = (⟨#[]⟩ : ByteArray) from rfl, empty_append]
  · rw [if_neg h, if_neg h]
theorem rsput_is {l : List Sub} (hl : Few l) (h1 : l.length ≤ 1000000) {k : Nat} (hk : l.length < k) : roadbookref19_Put.f k l = some (putS l) := by
  unfold roadbookref19_Put.f putS
  rw [rright_is hl hk, Option.bind_some]
  by_cases h : rightB l = true
  · rw [if_pos h, if_pos h]
    have hr := allR_of (Bool.and_eq_true_iff.mp h).1
    have := rput_loop hr h1 l.length k 0 ⟨#[]⟩ (by omega) (by omega) hk (by rw [empty_size]; omega)
    rw [show ((0 : Nat) : Int) = 0 from rfl] at this
    rw [this, List.drop_zero, empty_append]
  · rw [if_neg h, if_neg h]
/-- The Subs that are kept of TLVs; whether none must be known. -/
def keep (l : List Tlv) : List Sub := (l.filter fun t => decide (2 ≤ t.f0 ∧ t.f0 ≤ 127)).map fun t => ⟨t.f0, t.f2⟩
def free (l : List Tlv) : Bool := l.all fun t => decide (t.f0 ≤ 127)
def endS (acc : List Sub) (b : Bool) : List Sub × Bool × Int := if sumN acc > 200 then ([], false, 10) else (acc, b, 0)
def getS (s : ByteArray) : List Sub × Bool × Int := if (splitF s 0).2.2 = 0 then endS (keep (splitF s 0).1) (free (splitF s 0).1) else ([], false, (splitF s 0).2.2)
theorem keep_cons (t : Tlv) (l : List Tlv) : keep (t :: l) = if 2 ≤ t.f0 ∧ t.f0 ≤ 127 then ⟨t.f0, t.f2⟩ :: keep l else keep l := by
  unfold keep
  rw [List.filter_cons]
  by_cases h : 2 ≤ t.f0 ∧ t.f0 ≤ 127
  · rw [if_pos (decide_eq_true h), if_pos h]; rfl
  · rw [if_neg (by simpa using h), if_neg h]
theorem keep_append (a b : List Tlv) : keep (a ++ b) = keep a ++ keep b := by simp [keep]
theorem free_append (a b : List Tlv) : free (a ++ b) = (free a && free b) := by simp [free]
def Short (l : List Tlv) : Prop := ∀ t ∈ l, t.f2.size ≤ 255
theorem keep_few {l : List Tlv} (hs : Short l) (h1 : l.length ≤ 1099511627776) : Few (keep l) := by
  constructor
  · have := List.length_filter_le (fun t : Tlv => decide (2 ≤ t.f0 ∧ t.f0 ≤ 127)) l
    simp only [keep, List.length_map]
    omega
  · intro y hy
    simp only [keep, List.mem_map, List.mem_filter] at hy
    obtain ⟨t, ⟨ht, _⟩, rfl⟩ := hy
    have := hs t ht
    show t.f2.size ≤ 300
    omega
theorem get_loop {l : List Tlv} (hs : Short l) (h1 : l.length ≤ 1000000) : ∀ (d k i : Nat) (acc : List Sub) (b : Bool), l.length - i = d → i ≤ l.length → d + l.length + 10 ≤ k → acc.length ≤ i → (∀ y ∈ acc, y.f1.size ≤ 300) →
    sub_Get.l0 k acc b l (l.length : Int) i = some (endS (acc ++ keep (l.drop i)) (b && free (l.drop i))) := by
  intro d
  induction d with
  | zero =>
    intro k i acc b hd hi hk ha hy
    obtain ⟨k, rfl⟩ : ∃ m, k = m + 1 := ⟨k - 1, by omega⟩
    rw [sub_Get.l0, if_neg (by omega), bytes_is ⟨by omega, hy⟩ (by omega), Option.bind_some, List.drop_eq_nil_of_le (by omega)]
    simp only [keep, free, List.filter_nil, List.map_nil, List.append_nil, List.all_nil, Bool.and_true, endS]
    split <;> rfl
  | succ d ih =>
    intro k i acc b hd hi hk ha hy
    obtain ⟨k, rfl⟩ : ∃ m, k = m + 1 := ⟨k - 1, by omega⟩
    have hlt : i < l.length := by omega
    have ht := hs l[i] (List.getElem_mem hlt)
    have e : ((i + 1 : Nat) : Int) = (i : Int) + 1 := by omega
    rw [sub_Get.l0, if_pos (by omega), if_pos (by omega), if_pos (by omega), rd_tlv hlt, w64 (x := (i : Int) + 1) (by omega) (by omega), List.drop_eq_getElem_cons hlt, keep_cons, ← e]
    have hf : free (l[i] :: l.drop (i + 1)) = (decide (l[i].f0 ≤ 127) && free (l.drop (i + 1))) := rfl
    rw [hf]
    by_cases a : l[i].f0 ≥ 128
    · rw [if_pos a, ih k (i + 1) acc false (by omega) (by omega) (by omega) (by omega) hy, if_neg (by omega), decide_eq_false (by omega)]
      simp
    · rw [if_neg a, decide_eq_true (by omega), Bool.true_and]
      by_cases c : l[i].f0 ≥ 2
      · rw [if_pos c, if_pos (by omega), ih k (i + 1) (acc ++ [(⟨l[i].f0, l[i].f2⟩ : Sub)]) b (by omega) (by omega) (by omega) (by simp; omega) (by
          intro y h
          rcases List.mem_append.mp h with h | h
          · exact hy y h
          · simp at h; subst h; show l[i].f2.size ≤ 300; omega), if_pos (by omega), List.append_assoc]
        rfl
      · rw [if_neg c, ih k (i + 1) acc b (by omega) (by omega) (by omega) (by omega) hy, if_neg (by omega)]
theorem chain_short {s : ByteArray} {base : Int} : ∀ (l : List Tlv) (p : Int), Chain s base p l → Short l := by
  intro l
  induction l with
  | nil => intro p _ t ht; simp at ht
  | cons t l ih =>
    intro p h u hu
    obtain ⟨_, hp, h⟩ := h
    rcases h with ⟨_, h2, _, _, h⟩ | ⟨_, _, h3, h2, h⟩
    · rcases List.mem_cons.mp hu with rfl | hu
      · rw [h2, empty_size]; omega
      · exact ih _ h u hu
    · rcases List.mem_cons.mp hu with rfl | hu
      · have hb := bt_nn s (p + 1); have hl := bt_lt s (p + 1)
        rw [h2, size_ext (by omega) (by omega)]; omega
      · exact ih _ h u hu
theorem sget_is {s : ByteArray} (hs : s.size ≤ 1000000) {k : Nat} (hk : 2 * s.size + 100 ≤ k) : sub_Get.f k s = some (getS s) := by
  unfold sub_Get.f getS
  rw [split_is (by unfold Small; omega) (by omega) (by omega), Option.bind_some]
  rcases splitF_cases s 0 with ⟨l, h1, h2, h3⟩ | ⟨x, h1, _, _⟩
  · rw [h1, if_pos rfl, if_pos rfl]
    have := get_loop (chain_short l 0 h2) (by omega) l.length k 0 [] true (by omega) (by omega) (by omega) (by simp) (by simp)
    rw [show ((0 : Nat) : Int) = 0 from rfl, List.drop_zero, List.nil_append, Bool.true_and] at this
    exact this
  · rw [h1, if_neg (show ¬ ((2 : Int) = 0) by decide), if_neg (show ¬ ((2 : Int) = 0) by decide)]
theorem rget_loop {l : List Tlv} (hs : Short l) (h1 : l.length ≤ 1000000) : ∀ (d k i : Nat) (acc : List Sub) (b : Bool), l.length - i = d → i ≤ l.length → d + l.length + 10 ≤ k → acc.length ≤ i → (∀ y ∈ acc, y.f1.size ≤ 300) →
    roadbookref19_Get.l0 k l acc b i = some (endS (acc ++ keep (l.drop i)) (b && free (l.drop i))) := by
  intro d
  induction d with
  | zero =>
    intro k i acc b hd hi hk ha hy
    obtain ⟨k, rfl⟩ : ∃ m, k = m + 1 := ⟨k - 1, by omega⟩
    rw [roadbookref19_Get.l0, if_neg (by omega), rbytes_is ⟨by omega, hy⟩ (by omega), Option.bind_some, List.drop_eq_nil_of_le (by omega)]
    simp only [keep, free, List.filter_nil, List.map_nil, List.append_nil, List.all_nil, Bool.and_true, endS]
    split <;> rfl
  | succ d ih =>
    intro k i acc b hd hi hk ha hy
    obtain ⟨k, rfl⟩ : ∃ m, k = m + 1 := ⟨k - 1, by omega⟩
    have hlt : i < l.length := by omega
    have ht := hs l[i] (List.getElem_mem hlt)
    have e : ((i + 1 : Nat) : Int) = (i : Int) + 1 := by omega
    have ht' : ∀ y ∈ acc ++ [(⟨l[i].f0, l[i].f2⟩ : Sub)], y.f1.size ≤ 300 := by
      intro y h
      rcases List.mem_append.mp h with h | h
      · exact hy y h
      · simp at h; subst h; show l[i].f2.size ≤ 300; omega
    have hf : free (l[i] :: l.drop (i + 1)) = (decide (l[i].f0 ≤ 127) && free (l.drop (i + 1))) := rfl
    rw [roadbookref19_Get.l0, if_pos (by omega), if_pos (by omega), rd_tlv hlt, w64 (x := (i : Int) + 1) (by omega) (by omega), List.drop_eq_getElem_cons hlt, keep_cons, ← e, hf]
    have fin : ∀ acc' : List Sub, acc'.length ≤ i + 1 → (∀ y ∈ acc', y.f1.size ≤ 300) → (if b = true then roadbookref19_Get.l0 k l acc' (decide (l[i].f0 ≤ 127)) ((i + 1 : Nat) : Int) else roadbookref19_Get.l0 k l acc' false ((i + 1 : Nat) : Int)) = some (endS (acc' ++ keep (l.drop (i + 1))) (b && (decide (l[i].f0 ≤ 127) && free (l.drop (i + 1))))) := by
      intro acc' h2 h3
      by_cases hb : b = true
      · rw [if_pos hb, ih k (i + 1) acc' _ (by omega) (by omega) (by omega) h2 h3, hb, Bool.true_and]
      · rw [if_neg hb, ih k (i + 1) acc' _ (by omega) (by omega) (by omega) h2 h3]
        rw [Bool.not_eq_true] at hb
        rw [hb, Bool.false_and, Bool.false_and]
    by_cases a : l[i].f0 ≥ 2
    · rw [if_pos a]
      by_cases c : l[i].f0 ≤ 127
      · rw [if_pos c, if_pos (by omega), Option.bind_some, fin _ (by simp; omega) ht', if_pos ⟨a, c⟩, List.append_assoc]
        rfl
      · rw [if_neg c, fin _ (by omega) hy, if_neg (by omega)]
    · rw [if_neg a, fin _ (by omega) hy, if_neg (by omega)]
theorem rsget_is {s : ByteArray} (hs : s.size ≤ 1000000) {k : Nat} (hk : 2 * s.size + 100 ≤ k) : roadbookref19_Get.f k s = some (getS s) := by
  unfold roadbookref19_Get.f getS
  rw [rsplit_is (by unfold Small; omega) (by omega) (by omega), Option.bind_some]
  rcases splitF_cases s 0 with ⟨l, h1, h2, h3⟩ | ⟨x, h1, _, _⟩
  · rw [h1, if_pos rfl, if_pos rfl]
    have := rget_loop (chain_short l 0 h2) (by omega) l.length k 0 [] true (by omega) (by omega) (by omega) (by simp) (by simp)
    rw [show ((0 : Nat) : Int) = 0 from rfl, List.drop_zero, List.nil_append, Bool.true_and] at this
    exact this
  · rw [h1, if_neg (show ¬ ((2 : Int) = 0) by decide), if_neg (show ¬ ((2 : Int) = 0) by decide)]
end Go.Proofs.Ytjgnpggpgkkknaa.Pure
