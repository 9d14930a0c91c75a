import Derived.Test.YtojlppofmjkmhaaDoorGFH
import Derived.Test.YtojlppofmjkmhaaDoorGXT
import Derived.Lib.Bytealg
import Derived.Test.YtojlppofmjkmhaaDoorGXMt
import Derived.Test.YtojlppofmjkmhaaDoorGFQ0
import Derived.Test.YtojlppofmjkmhaaDoorGFQ1
import Derived.Test.YtojlppofmjkmhaaDoorGXM
import Derived.Test.YtojlppofmjkmhaaDoorGFQ2
set_option linter.unusedVariables false
set_option linter.unusedSimpArgs false
set_option maxRecDepth 100000
namespace Go.VP
open Go Go.VI
abbrev Bs := List UInt8
theorem w64 {x : Int} (h : -9223372036854775808 ≤ x) (h' : x ≤ 9223372036854775807) : IntKind.wrap .i64 x = x := by
  simp only [IntKind.wrap, IntKind.bits, IntKind.signed]
  simp
  omega
theorem w64n (b : UInt8) : IntKind.wrap .i64 (b.toNat : Int) = b.toNat := by
  have := b.toNat_lt; exact w64 (by omega) (by omega)
theorem has64 {x : Int} : IntKind.has .i64 x ↔ -9223372036854775808 ≤ x ∧ x ≤ 9223372036854775807 := by
  simp only [IntKind.has, IntKind.min, IntKind.max, IntKind.bits, IntKind.signed]
  simp
theorem maxB_of {n : Nat} (h : n ≤ 9223372036854775807) : maxB n = true := Nat.ble_eq_true_of_le h
theorem roomB_of {n : Nat} (h : n ≤ 35184372088832) : roomB n = true := Nat.ble_eq_true_of_le h
theorem fuel_ge {n : Nat} (h : n ≤ 1125899906842623) : n < fuel := Nat.lt_succ_of_le h
theorem u8of_nat (b : UInt8) : u8of (b.toNat : Int) = b := by
  unfold u8of; simp
theorem bind_at {α β : Type} {l : List α} {i : Nat} (h : i < l.length) (f : α → Option β) : (l[i]?.bind f) = f (l[i]'h) := by simp [h]
end Go.VP
set_option linter.unusedVariables false
set_option linter.unusedSimpArgs false
set_option maxRecDepth 100000
namespace Go.VP
open Go Go.VI
structure WfC (s : Bs) (p q : Int) : Prop where
  lo : 0 ≤ p
  hi : p ≤ q
  top : q ≤ s.length
  sz : s.length ≤ 1000000000000000
end Go.VP
set_option linter.unusedVariables false
set_option linter.unusedSimpArgs false
set_option maxRecDepth 100000
namespace Go.VP
open Go Go.VI
theorem ifd {α : Sort _} {p : Prop} [d : Decidable p] {a b : α} (h : p) : (if decide p = true then a else b) = a := if_pos (decide_eq_true h)
theorem ifn {α : Sort _} {p : Prop} [d : Decidable p] {a b : α} (h : ¬ p) : (if decide p = true then a else b) = b := if_neg (by simpa using h)
theorem ift {α : Sort _} {a b : α} : (if true = true then a else b) = a := rfl
theorem iff_ {α : Sort _} {a b : α} : (if false = true then a else b) = b := rfl
theorem ifnt {α : Sort _} {a b : α} : (if (!true) = true then a else b) = b := rfl
theorem ifnf {α : Sort _} {a b : α} : (if (!false) = true then a else b) = a := rfl
end Go.VP
set_option linter.unusedVariables false
set_option linter.unusedSimpArgs false
set_option maxRecDepth 100000
namespace Go.VP
open Go Go.VI
theorem all_u8 {p : UInt8 → Bool} (h : ((List.range 256).all fun n => p (UInt8.ofNat n)) = true) (c : UInt8) : p c = true := by
  have := List.all_eq_true.1 h c.toNat (List.mem_range.2 c.toNat_lt)
  simpa using this
theorem ix_lib (c : UInt8) : Lib.indexByte dg c = if ix c < 16 then ((ix c : Nat) : Int) else -1 := by
  have := all_u8 (p := fun c => decide (Lib.indexByte dg c = if ix c < 16 then ((ix c : Nat) : Int) else -1)) (by decide +kernel) c
  exact of_decide_eq_true this
theorem digitC_ix (c : UInt8) (h : ix c < 16) : digitC (ix c) = c := by
  have := all_u8 (p := fun c => decide (ix c < 16 → digitC (ix c) = c)) (by decide +kernel) c
  exact of_decide_eq_true this h
theorem ix_digitC : ∀ n, n < 16 → ix (digitC n) = n := by decide +kernel
theorem dg_at : ∀ i, i < 16 → dg[i]? = some (digitC i) := by decide +kernel
theorem dg_cut : ∀ i, i < 16 → (dg.take (i + 1)).drop i = [digitC i] := by decide +kernel
theorem vN_append (b : Nat) : ∀ (s t : Bs) (x : Nat), vN b (s ++ t) x = (vN b s x).bind (vN b t)
  | [], t, x => rfl
  | c :: r, t, x => by
    rw [List.cons_append, vN, vN]
    cases dv b c with
    | none => rfl
    | some d => exact vN_append b r t _
def can (s : Bs) : Prop := s ≠ [] ∧ (s.head? = some 48 → s = [48])
theorem numR_ne (b : Nat) : ∀ (k n : Nat), numR b (k + 1) n ≠ []
  | k, n => by
    rw [numR]
    split
    · simp
    · simp
theorem of_numR (b : Nat) (hb : 2 ≤ b) (h16 : b ≤ 16) : ∀ (k v : Nat), v < b ^ k → 1 ≤ k → vN b (numR b k v) 0 = some v ∧ can (numR b k v)
  | k + 1, v, hv, _ => by
    rw [numR]
    by_cases h : v < b
    · rw [if_pos h, vN]
      have e := ix_digitC v (by omega)
      have : dv b (digitC v) = some v := by unfold dv; rw [e, if_pos h]
      rw [this]
      refine ⟨by simp [vN], by simp, fun e => ?_⟩
      simp at e
      rw [e]
    · rw [if_neg h]
      have h1 : v / b < b ^ k := by rw [Nat.pow_succ] at hv; exact Nat.div_lt_of_lt_mul (by rw [Nat.mul_comm]; exact hv)
      have k1 : 1 ≤ k := by cases k with | zero => simp at hv; omega | succ k => omega
      obtain ⟨i1, i2⟩ := of_numR b hb h16 k (v / b) h1 k1
      have hm := Nat.mod_lt v (show b > 0 by omega)
      have e := ix_digitC (v % b) (by omega)
      have hd : dv b (digitC (v % b)) = some (v % b) := by unfold dv; rw [e, if_pos hm]
      refine ⟨?_, by simp, fun e => ?_⟩
      · rw [vN_append, i1]
        show vN b [digitC (v % b)] (v / b) = _
        rw [vN, hd]
        show vN b [] _ = _
        rw [vN, Nat.mul_comm, Nat.div_add_mod]
      · obtain ⟨h0, r0, e0⟩ := List.exists_cons_of_ne_nil i2.1
        have e3 := i2.2 (by rw [e0] at e ⊢; simpa using e)
        rw [e3] at i1
        have : vN b [48] 0 = some 0 := by
          rw [vN]
          have : dv b 48 = some 0 := by unfold dv; rw [show ix 48 = 0 from by decide +kernel, if_pos (by omega)]
          rw [this]
          show vN b [] (0 * b + 0) = _
          rw [vN, Nat.zero_mul]
        rw [this] at i1
        have : v / b = 0 := (Option.some.inj i1).symm
        have := Nat.div_eq_zero_iff.1 this
        omega
end Go.VP
set_option linter.unusedVariables false
set_option linter.unusedSimpArgs false
set_option maxRecDepth 100000
namespace Go.VP
open Go Go.VI
theorem splitC_length (c : UInt8) : ∀ (s : Bs), (splitC c s).length = s.count c + 1
  | [] => by simp [splitC]
  | x :: r => by
    have ih := splitC_length c r
    rw [splitC]
    by_cases h : x = c
    · rw [if_pos h, List.length_cons, ih, h, List.count_cons_self]
    · rw [if_neg h, List.count_cons_of_ne h]
      cases hs : splitC c r with
      | nil => rw [hs] at ih; simp at ih
      | cons q t => rw [hs] at ih; simpa using ih
theorem digitC_no (c : UInt8) (hc : ix c = 16) : ∀ n, n < 16 → digitC n ≠ c := fun n hn e => by
  have := ix_digitC n hn
  rw [e] at this
  omega
theorem numR_no {b : Nat} (hb : 2 ≤ b) (h16 : b ≤ 16) (c : UInt8) (hc : ix c = 16) : ∀ (k n : Nat), c ∉ numR b k n
  | 0, n => by simp [numR]
  | k + 1, n => by
    rw [numR]
    split
    · intro h
      exact digitC_no c hc n (by omega) (List.mem_singleton.1 h).symm
    · intro h
      rcases List.mem_append.1 h with h | h
      · exact numR_no hb h16 c hc k _ h
      · have := Nat.mod_lt n (show b > 0 by omega)
        exact digitC_no c hc _ (by omega) (List.mem_singleton.1 h).symm
theorem splitC_one (c : UInt8) : ∀ (s : Bs), c ∉ s → splitC c s = [s]
  | [], _ => rfl
  | x :: r, h => by
    rw [splitC, if_neg (fun e => h (by simp [e])), splitC_one c r (fun e => h (by simp [e]))]
theorem splitC_part (c : UInt8) (t : Bs) : ∀ (s : Bs), c ∉ s → splitC c (s ++ c :: t) = s :: splitC c t
  | [], _ => by rw [List.nil_append, splitC, if_pos rfl]
  | x :: r, h => by
    rw [List.cons_append, splitC, if_neg (fun e => h (by simp [e])), splitC_part c t r (fun e => h (by simp [e]))]
theorem splitC_nn (c : UInt8) (l : Bs) : splitC c l ≠ [] := fun h => by
  have := splitC_length c l
  rw [h] at this
  simp at this
theorem join_split (c : UInt8) : ∀ (s : Bs), joinC c (splitC c s) = s
  | [] => rfl
  | x :: r => by
    have ih := join_split c r
    rw [splitC]
    by_cases h : x = c
    · rw [if_pos h]
      cases hs : splitC c r with
      | nil => exact absurd hs (splitC_nn c r)
      | cons q t => rw [joinC, ← hs, ih, h]; rfl
    · rw [if_neg h]
      cases hs : splitC c r with
      | nil => exact absurd hs (splitC_nn c r)
      | cons q t =>
        rw [hs] at ih
        dsimp only
        cases t with
        | nil => rw [joinC] at ih ⊢; rw [ih]
        | cons q2 t => rw [joinC] at ih ⊢; rw [List.cons_append, ih]
theorem splitC_join (c : UInt8) : ∀ (l : List Bs), l ≠ [] → (∀ p ∈ l, c ∉ p) → splitC c (joinC c l) = l
  | [], h, _ => absurd rfl h
  | [p], _, h => by rw [joinC, splitC_one c p (h p (by simp))]
  | p :: q :: r, _, h => by
    rw [joinC, splitC_part c _ p (h p (by simp)), splitC_join c (q :: r) (by simp) (fun x hx => h x (by simp at hx ⊢; exact .inr hx))]
theorem joinC_no (c d : UInt8) (h : c ≠ d) : ∀ (l : List Bs), (∀ p ∈ l, c ∉ p) → c ∉ joinC d l
  | [], _ => by simp [joinC]
  | [p], hl => by rw [joinC]; exact hl p (by simp)
  | p :: q :: r, hl => by
    rw [joinC]
    intro hm
    rcases List.mem_append.1 hm with hm | hm
    · exact hl p (by simp) hm
    · rcases List.mem_cons.1 hm with hm | hm
      · exact h hm
      · exact joinC_no c d h (q :: r) (fun x hx => hl x (by simp at hx ⊢; exact .inr hx)) hm
theorem numR_le (b : Nat) : ∀ (k n : Nat), (numR b k n).length ≤ k
  | 0, n => by simp [numR]
  | k + 1, n => by
    rw [numR]
    split
    · simp
    · have := numR_le b k (n / b)
      rw [List.length_append, List.length_singleton]; omega
end Go.VP
set_option linter.unusedVariables false
set_option linter.unusedSimpArgs false
set_option maxRecDepth 100000
namespace Go.VP
open Go Go.VI
theorem cutC_hit (c : UInt8) (b : Bs) : ∀ (a : Bs), c ∉ a → cutC c (a ++ c :: b) = (a, b, true)
  | [], _ => by rw [List.nil_append, cutC, if_pos rfl]
  | x :: r, h => by
    rw [List.cons_append, cutC, if_neg (fun e => h (by simp [e])), cutC_hit c b r (fun e => h (by simp [e]))]
theorem cutC_miss (c : UInt8) : ∀ (a : Bs), c ∉ a → cutC c a = (a, [], false)
  | [], _ => rfl
  | x :: r, h => by rw [cutC, if_neg (fun e => h (by simp [e])), cutC_miss c r (fun e => h (by simp [e]))]
theorem cutC_inv (c : UInt8) : ∀ (s : Bs), c ∉ (cutC c s).1 ∧ s = (cutC c s).1 ++ (if (cutC c s).2.2 = true then c :: (cutC c s).2.1 else []) ∧ ((cutC c s).2.2 = false → (cutC c s).2.1 = [])
  | [] => by simp [cutC]
  | x :: r => by
    obtain ⟨h1, h2, h3⟩ := cutC_inv c r
    rw [cutC]
    by_cases h : x = c
    · rw [if_pos h]; simp [h]
    · rw [if_neg h]
      refine ⟨?_, ?_, h3⟩
      · intro e
        rcases List.mem_cons.1 e with e | e
        · exact h e.symm
        · exact h1 e
      · dsimp only
        rw [List.cons_append, ← h2]
variable {M : Type}
theorem readF_done : ∀ (l : List (TFd M)) (m : M) (rest : Bs), readF l m rest false = some (m, rest, false)
  | [], m, rest => rfl
  | f :: r, m, rest => by rw [readF, if_pos rfl]
def WordsOk : List (TFd M) → Prop
  | [] => True
  | f :: r => (32 : UInt8) ∉ f.w ∧ (61 : UInt8) ∉ f.w ∧ (∀ g ∈ r, g.w ≠ f.w) ∧ WordsOk r
theorem WordsOk.mem : ∀ {l : List (TFd M)}, WordsOk l → ∀ f ∈ l, (32 : UInt8) ∉ f.w ∧ (61 : UInt8) ∉ f.w
  | [], _, f, h => by cases h
  | g :: r, hw, f, h => by
    rcases List.mem_cons.1 h with rfl | h
    · exact ⟨hw.1, hw.2.1⟩
    · exact WordsOk.mem hw.2.2.2 f h
theorem pre_eq : ∀ {a b x : Bs}, (61 : UInt8) ∉ a → (61 : UInt8) ∉ b → (a ++ [61]).isPrefixOf (b ++ 61 :: x) = true → a = b
  | [], [], _, _, _, _ => rfl
  | [], y :: b, x, _, hb, h => by
    simp [List.isPrefixOf] at h
    exact absurd (by simp [h]) hb
  | y :: a, [], x, ha, _, h => by
    simp [List.isPrefixOf] at h
    exact absurd (by simp [h.1]) ha
  | y :: a, z :: b, x, ha, hb, h => by
    simp only [List.cons_append, List.isPrefixOf, Bool.and_eq_true, beq_iff_eq] at h
    rw [h.1, pre_eq (fun e => ha (by simp [e])) (fun e => hb (by simp [e])) h.2]
def Chain (m : M) : List (TFd M) → M → M → Prop
  | [], m0, m1 => m0 = m1
  | f :: r, m0, m1 => if f.get m = [] then Chain m r m0 m1 else ∃ m2, f.put (f.get m) m0 = some m2 ∧ Chain m r m2 m1
theorem lineF_head (m : M) : ∀ (l : List (TFd M)), lineF m l = [] ∨ ∃ f ∈ l, ∃ x, lineF m l = 32 :: (f.w ++ 61 :: (f.get m ++ x)) ∧ (x = [] ∨ ∃ y, x = 32 :: y) ∧ f.get m ≠ []
  | [] => .inl rfl
  | f :: r => by
    rw [lineF]
    by_cases h : f.get m = []
    · rw [if_pos h, List.nil_append]
      rcases lineF_head m r with h | ⟨g, hg, x, h⟩
      · exact .inl h
      · exact .inr ⟨g, by simp [hg], x, h⟩
    · rw [if_neg h]
      refine .inr ⟨f, by simp, lineF m r, by simp, ?_, h⟩
      rcases lineF_head m r with h | ⟨g, hg, x, h, _⟩
      · exact .inl h
      · exact .inr ⟨_, h⟩
theorem there (m : M) : ∀ (l : List (TFd M)) (m0 m1 : M), WordsOk l → (∀ f ∈ l, (32 : UInt8) ∉ f.get m) → Chain m l m0 m1 →
    (lineF m l = [] → readF l m0 [] false = some (m1, [], false)) ∧ (∀ rest, lineF m l = 32 :: rest → readF l m0 rest true = some (m1, [], false))
  | [], m0, m1, _, _, hc => ⟨fun _ => by rw [show m0 = m1 from hc]; rfl, fun rest h => by cases h⟩
  | f :: r, m0, m1, hw, hb, hc => by
    rw [Chain] at hc
    have hbf := hb f (by simp)
    have hbr : ∀ g ∈ r, (32 : UInt8) ∉ g.get m := fun g hg => hb g (by simp [hg])
    by_cases h : f.get m = []
    · rw [if_pos h] at hc
      obtain ⟨i1, i2⟩ := there m r m0 m1 hw.2.2.2 hbr hc
      rw [lineF, if_pos h, List.nil_append]
      refine ⟨fun e => ?_, fun rest e => ?_⟩
      · have := i1 e
        rw [readF_done] at this ⊢
        exact this
      · rw [readF, if_neg (by decide)]
        rcases lineF_head m r with h' | ⟨g, hg, x, h', hx, _⟩
        · rw [h'] at e; cases e
        · have er : rest = (g.w ++ 61 :: g.get m) ++ x := by
            rw [h'] at e
            have := (List.cons.inj e).2
            rw [← this]; simp
          have hno : (32 : UInt8) ∉ g.w ++ 61 :: g.get m := by
            have := (WordsOk.mem hw.2.2.2 g hg).1
            have := hbr g hg
            simp_all
          have hcut : (cutC 32 rest).1 = g.w ++ 61 :: g.get m := by
            rw [er]
            rcases hx with rfl | ⟨y, rfl⟩
            · rw [List.append_nil, cutC_miss _ _ hno]
            · rw [cutC_hit _ _ _ hno]
          rw [hcut, if_neg (fun hp => hw.2.2.1 g hg (pre_eq hw.2.1 (WordsOk.mem hw.2.2.2 g hg).2 hp).symm)]
          exact i2 rest e
    · rw [if_neg h] at hc
      obtain ⟨m2, hp, hc⟩ := hc
      obtain ⟨i1, i2⟩ := there m r m2 m1 hw.2.2.2 hbr hc
      rw [lineF, if_neg h]
      refine ⟨fun e => by simp at e, fun rest e => ?_⟩
      have er : rest = (f.w ++ 61 :: f.get m) ++ lineF m r := by
        have := (List.cons.inj e).2
        rw [← this]; rfl
      have hno : (32 : UInt8) ∉ f.w ++ 61 :: f.get m := by
        have := hw.1
        simp_all
      have key : ∀ t mo, cutC 32 rest = (f.w ++ 61 :: f.get m, t, mo) → readF (f :: r) m0 rest true = readF r m2 t mo := by
        intro t mo e
        rw [readF, if_neg (by decide), e]
        have hpre : (f.w ++ [61]).isPrefixOf (f.w ++ 61 :: f.get m) = true := by
          rw [List.isPrefixOf_iff_prefix]
          exact ⟨f.get m, by simp⟩
        have hd : (f.w ++ 61 :: f.get m).drop (f.w.length + 1) = f.get m := by
          rw [show f.w ++ 61 :: f.get m = (f.w ++ [61]) ++ f.get m by simp, show f.w.length + 1 = (f.w ++ [61]).length by simp, List.drop_left]
        dsimp only
        rw [if_pos hpre, hd, hp]
      rcases lineF_head m r with h' | ⟨g, hg, x, h', hx, _⟩
      · rw [h', List.append_nil] at er
        rw [key [] false (by rw [er]; exact cutC_miss _ _ hno)]
        exact i1 h'
      · rw [key _ true (by rw [er, h']; exact cutC_hit _ _ _ hno)]
        exact i2 _ h'
def Puts (l : List (TFd M)) : Prop := ∀ f ∈ l, ∀ s m m', f.put s m = some m' → s ≠ [] ∧ f.get m' = s ∧ ∀ g ∈ l, g.w ≠ f.w → g.get m' = g.get m
theorem lineF_empty (m : M) : ∀ (l : List (TFd M)), (∀ f ∈ l, f.get m = []) → lineF m l = []
  | [], _ => rfl
  | f :: r, h => by rw [lineF, if_pos (h f (by simp)), lineF_empty m r (fun g hg => h g (by simp [hg]))]; rfl
theorem readF_keeps (L : List (TFd M)) (hP : Puts L) (g : TFd M) (hg : g ∈ L) : ∀ (l : List (TFd M)) (m0 m1 : M) (rest rest1 : Bs) (more more1 : Bool), (∀ f ∈ l, f ∈ L ∧ g.w ≠ f.w) → readF l m0 rest more = some (m1, rest1, more1) → g.get m1 = g.get m0
  | [], m0, m1, rest, rest1, more, more1, _, h => by rw [readF] at h; cases h; rfl
  | f :: r, m0, m1, rest, rest1, more, more1, hl, h => by
    rw [readF] at h
    have hr : ∀ f ∈ r, f ∈ L ∧ g.w ≠ f.w := fun x hx => hl x (by simp [hx])
    split at h
    · cases h; rfl
    · split at h
      · split at h
        · cases h
        · rename_i m' hp
          rw [readF_keeps L hP g hg r _ _ _ _ _ _ hr h]
          exact (hP f (hl f (by simp)).1 _ _ _ hp).2.2 g hg (hl f (by simp)).2
      · exact readF_keeps L hP g hg r _ _ _ _ _ _ hr h
theorem back (L : List (TFd M)) (hP : Puts L) : ∀ (l : List (TFd M)) (m0 m1 : M) (rest rest1 : Bs), WordsOk l → (∀ f ∈ l, f ∈ L) → (∀ f ∈ l, f.get m0 = []) → readF l m0 rest true = some (m1, rest1, false) → lineF m1 l = 32 :: rest ∧ rest1 = []
  | [], m0, m1, rest, rest1, _, _, _, h => by rw [readF] at h; cases h
  | f :: r, m0, m1, rest, rest1, hw, hl, h0, h => by
    rw [readF, if_neg (by decide)] at h
    have hr : ∀ g ∈ r, g ∈ L := fun x hx => hl x (by simp [hx])
    have hne : ∀ g ∈ r, f.w ≠ g.w := fun g hg e => hw.2.2.1 g hg e.symm
    have hff := hl f (by simp)
    split at h
    · rename_i hpre
      split at h
      · cases h
      · rename_i m' hp
        obtain ⟨p1, p2, p3⟩ := hP f hff _ _ _ hp
        have h0' : ∀ g ∈ r, g.get m' = [] := fun g hg => by rw [p3 g (hr g hg) (fun e => hne g hg e.symm)]; exact h0 g (by simp [hg])
        have hk := readF_keeps L hP f hff r _ _ _ _ _ _ (fun g hg => ⟨hr g hg, hne g hg⟩) h
        obtain ⟨c1, c2, c3⟩ := cutC_inv 32 rest
        have hhead : (cutC 32 rest).1 = f.w ++ 61 :: f.get m1 := by
          rw [List.isPrefixOf_iff_prefix] at hpre
          obtain ⟨t, ht⟩ := hpre
          rw [hk, p2, ← ht, show f.w.length + 1 = (f.w ++ [61]).length by simp, List.drop_left]
          simp
        rw [lineF, if_neg (by rw [hk, p2]; exact p1), ← hhead]
        cases hm : (cutC 32 rest).2.2 with
        | false =>
          rw [hm] at h c2
          rw [readF_done] at h
          have e := Option.some.inj h
          have em : m' = m1 := congrArg (·.1) e
          subst em
          rw [lineF_empty m' r h0']
          have e2 : (cutC 32 rest).2.1 = rest1 := congrArg (·.2.1) e
          rw [if_neg (by decide), List.append_nil] at c2
          exact ⟨by rw [List.append_nil, ← c2], by rw [← e2]; exact c3 hm⟩
        | true =>
          rw [hm] at h c2
          obtain ⟨i1, i2⟩ := back L hP r m' m1 _ rest1 hw.2.2.2 hr h0' h
          rw [if_pos rfl] at c2
          refine ⟨?_, i2⟩
          rw [i1, List.cons_append, ← c2]
    · obtain ⟨i1, i2⟩ := back L hP r m0 m1 rest rest1 hw.2.2.2 hr (fun g hg => h0 g (by simp [hg])) h
      have hk := readF_keeps L hP f hff r _ _ _ _ _ _ (fun g hg => ⟨hr g hg, hne g hg⟩) h
      rw [lineF, if_pos (by rw [hk]; exact h0 f (by simp)), List.nil_append]
      exact ⟨i1, i2⟩
end Go.VP
set_option linter.unusedVariables false
set_option linter.unusedSimpArgs false
set_option maxRecDepth 100000
namespace Go.VP
open Go Go.VI
theorem hexRd_hexs : ∀ (s : Bs), hexRd (hexs s) = some s
  | [] => rfl
  | b :: r => by
    have h := b.toNat_lt
    rw [hexs, hexRd, ix_digitC _ (by omega), ix_digitC _ (by omega), if_pos ⟨by omega, by omega⟩, hexRd_hexs r, show b.toNat / 16 * 16 + b.toNat % 16 = b.toNat by omega]
    simp
theorem hexs_hexRd : ∀ (s t : Bs), hexRd s = some t → hexs t = s
  | [], t, h => by cases h; rfl
  | [_], t, h => by cases h
  | a :: b :: r, t, h => by
    rw [hexRd] at h
    split at h
    · rename_i hh
      obtain ⟨t', h', rfl⟩ := Option.map_eq_some_iff.1 h
      have e : (UInt8.ofNat (ix a * 16 + ix b)).toNat = ix a * 16 + ix b := by simp; omega
      rw [hexs, hexs_hexRd r t' h', e, show (ix a * 16 + ix b) / 16 = ix a by omega, show (ix a * 16 + ix b) % 16 = ix b by omega, digitC_ix a hh.1, digitC_ix b hh.2]
    · cases h
theorem hexs_no (c : UInt8) (hc : ix c = 16) : ∀ (s : Bs), c ∉ hexs s
  | [] => by simp [hexs]
  | b :: r => by
    have h := b.toNat_lt
    rw [hexs]
    intro e
    rcases List.mem_cons.1 e with e | e
    · exact digitC_no c hc _ (by omega) e.symm
    · rcases List.mem_cons.1 e with e | e
      · exact digitC_no c hc _ (by omega) e.symm
      · exact hexs_no c hc r e
theorem hexs_nil (s : Bs) : hexs s = [] ↔ s = [] := by
  cases s with
  | nil => simp [hexs]
  | cons a r => simp [hexs]
theorem numRd_dec {v : Nat} (h : v ≤ 1099511627776) : numRd (decT v) = some v := by
  unfold numRd
  have e : vN 10 (decT v) 0 = some v := (of_numR 10 (by decide) (by decide) 13 v (by omega) (by decide)).1
  rw [e]
  exact if_pos ⟨h, rfl⟩
theorem dec_numRd {s : Bs} {v : Nat} (h : numRd s = some v) : decT v = s ∧ v ≤ 1099511627776 := by
  unfold numRd at h
  split at h
  · split at h
    · rename_i hh; cases h; exact ⟨hh.2, hh.1⟩
    · cases h
  · cases h
theorem dec_no (c : UInt8) (hc : ix c = 16) (n : Nat) : c ∉ decT n := numR_no (by decide) (by decide) c hc 13 n
theorem dec_ne (n : Nat) : decT n ≠ [] := numR_ne 10 12 n
theorem no58 : ix 58 = 16 := by decide +kernel
theorem no44 : ix 44 = 16 := by decide +kernel
theorem no32 : ix 32 = 16 := by decide +kernel
theorem destRd_T {x : Bs × Nat} (h : x.2 ≤ 1099511627776) : destRd (destT x) = some x := by
  unfold destRd destT
  rw [cutC_hit _ _ _ (hexs_no 58 no58 x.1)]
  dsimp only
  rw [if_pos rfl, hexRd_hexs, Option.bind_some, numRd_dec h]; rfl
theorem destT_Rd {s : Bs} {x : Bs × Nat} (h : destRd s = some x) : destT x = s ∧ x.2 ≤ 1099511627776 := by
  unfold destRd at h
  split at h
  · rename_i hc
    obtain ⟨a, ha, h⟩ := Option.bind_eq_some_iff.1 h
    obtain ⟨n, hn, rfl⟩ := Option.map_eq_some_iff.1 h
    obtain ⟨c1, c2, c3⟩ := cutC_inv 58 s
    rw [if_pos hc] at c2
    have := dec_numRd hn
    unfold destT
    dsimp only
    rw [hexs_hexRd _ _ ha, this.1, ← c2]
    exact ⟨rfl, this.2⟩
  · cases h
theorem subRd_T {x : Nat × Bs} (h : x.1 ≤ 1099511627776) : subRd (subT x) = some x := by
  unfold subRd subT
  rw [cutC_hit _ _ _ (dec_no 58 no58 x.1)]
  dsimp only
  rw [if_pos rfl, numRd_dec h, Option.bind_some, hexRd_hexs]; rfl
theorem subT_Rd {s : Bs} {x : Nat × Bs} (h : subRd s = some x) : subT x = s ∧ x.1 ≤ 1099511627776 := by
  unfold subRd at h
  split at h
  · rename_i hc
    obtain ⟨n, hn, h⟩ := Option.bind_eq_some_iff.1 h
    obtain ⟨a, ha, rfl⟩ := Option.map_eq_some_iff.1 h
    obtain ⟨c1, c2, c3⟩ := cutC_inv 58 s
    rw [if_pos hc] at c2
    have := dec_numRd hn
    unfold subT
    dsimp only
    rw [hexs_hexRd _ _ ha, this.1, ← c2]
    exact ⟨rfl, this.2⟩
  · cases h
theorem destT_no (c : UInt8) (hc : ix c = 16) (h : c ≠ 58) (x : Bs × Nat) : c ∉ destT x := by
  unfold destT
  intro e
  rcases List.mem_append.1 e with e | e
  · exact hexs_no c hc _ e
  · rcases List.mem_cons.1 e with e | e
    · exact h e
    · exact dec_no c hc _ e
theorem subT_no (c : UInt8) (hc : ix c = 16) (h : c ≠ 58) (x : Nat × Bs) : c ∉ subT x := by
  unfold subT
  intro e
  rcases List.mem_append.1 e with e | e
  · exact dec_no c hc _ e
  · rcases List.mem_cons.1 e with e | e
    · exact h e
    · exact hexs_no c hc _ e
theorem allRd_map {α : Type} {f : Bs → Option α} {g : α → Bs} : ∀ (l : List α), (∀ x ∈ l, f (g x) = some x) → allRd f (l.map g) = some l
  | [], _ => rfl
  | x :: r, h => by rw [List.map_cons, allRd, h x (by simp), Option.bind_some, allRd_map r (fun y hy => h y (by simp [hy]))]; rfl
theorem allRd_inv {α : Type} {f : Bs → Option α} {g : α → Bs} {P : α → Prop} (hf : ∀ s x, f s = some x → g x = s ∧ P x) : ∀ (l : List Bs) (r : List α), allRd f l = some r → r.map g = l ∧ ∀ x ∈ r, P x
  | [], r, h => by cases h; simp
  | s :: l, r, h => by
    rw [allRd] at h
    obtain ⟨x, hx, h⟩ := Option.bind_eq_some_iff.1 h
    obtain ⟨r', hr, rfl⟩ := Option.map_eq_some_iff.1 h
    obtain ⟨h1, h2⟩ := allRd_inv hf l r' hr
    have := hf s x hx
    refine ⟨by rw [List.map_cons, this.1, h1], fun y hy => ?_⟩
    rcases List.mem_cons.1 hy with rfl | hy
    · exact this.2
    · exact h2 y hy
theorem joinC_nil (c : UInt8) : ∀ (l : List Bs), (∀ p ∈ l, p ≠ []) → (joinC c l = [] ↔ l = [])
  | [], _ => by simp [joinC]
  | [p], h => by
    have := h p (by simp)
    simp [joinC, this]
  | p :: q :: r, h => by simp [joinC]
theorem destT_ne (x : Bs × Nat) : destT x ≠ [] := by simp [destT]
theorem subT_ne (x : Nat × Bs) : subT x ≠ [] := by simp [subT]
theorem listT_nil (l : List (Bs × Nat)) : listT l = [] ↔ l = [] := by
  unfold listT
  rw [joinC_nil 44 _ (fun p hp => by obtain ⟨x, _, rfl⟩ := List.mem_map.1 hp; exact destT_ne x)]
  simp
theorem subsT_nil (l : List (Nat × Bs)) : subsT l = [] ↔ l = [] := by
  unfold subsT
  rw [joinC_nil 44 _ (fun p hp => by obtain ⟨x, _, rfl⟩ := List.mem_map.1 hp; exact subT_ne x)]
  simp
theorem listRd_T {l : List (Bs × Nat)} (hn : l ≠ []) (h : ∀ x ∈ l, x.2 ≤ 1099511627776) : listRd (listT l) = some l := by
  unfold listRd
  rw [if_neg (fun e => hn ((listT_nil l).1 e))]
  unfold listT
  rw [splitC_join 44 _ (by simpa using hn) (fun p hp => by obtain ⟨x, _, rfl⟩ := List.mem_map.1 hp; exact destT_no 44 no44 (by decide) x)]
  exact allRd_map l (fun x hx => destRd_T (h x hx))
theorem listT_Rd {s : Bs} {l : List (Bs × Nat)} (h : listRd s = some l) : listT l = s ∧ ∀ x ∈ l, x.2 ≤ 1099511627776 := by
  unfold listRd at h
  split at h
  · cases h
  · obtain ⟨h1, h2⟩ := allRd_inv (P := fun x : Bs × Nat => x.2 ≤ 1099511627776) (fun s x hx => destT_Rd hx) _ _ h
    unfold listT
    exact ⟨by rw [h1, join_split], h2⟩
theorem subsRd_T {l : List (Nat × Bs)} (hn : l ≠ []) (h : ∀ x ∈ l, x.1 ≤ 1099511627776) : subsRd (subsT l) = some l := by
  unfold subsRd
  rw [if_neg (fun e => hn ((subsT_nil l).1 e))]
  unfold subsT
  rw [splitC_join 44 _ (by simpa using hn) (fun p hp => by obtain ⟨x, _, rfl⟩ := List.mem_map.1 hp; exact subT_no 44 no44 (by decide) x)]
  exact allRd_map l (fun x hx => subRd_T (h x hx))
theorem subsT_Rd {s : Bs} {l : List (Nat × Bs)} (h : subsRd s = some l) : subsT l = s ∧ ∀ x ∈ l, x.1 ≤ 1099511627776 := by
  unfold subsRd at h
  split at h
  · cases h
  · obtain ⟨h1, h2⟩ := allRd_inv (P := fun x : Nat × Bs => x.1 ≤ 1099511627776) (fun s x hx => subT_Rd hx) _ _ h
    unfold subsT
    exact ⟨by rw [h1, join_split], h2⟩
end Go.VP
set_option linter.unusedVariables false
set_option linter.unusedSimpArgs false
set_option maxRecDepth 100000
namespace Go.VP
open Go Go.VI
theorem fsM_words : WordsOk fsM := by simp [WordsOk, fsM, fd_cmd, fd_ver, fd_auth, fd_family, fd_ae, fd_prefix_, fd_plen, fd_tag, fd_next, fd_metric, fd_id, fd_seq, fd_seq2, fd_interval, fd_flags, fd_hops, fd_nonce, fd_cost, fd_addr, fd_orig, fd_list, fd_type_, fd_data, fd_subs, numF, textF, listFd, subsFd]
theorem rng_toNat {n : Int} (h : rng n) : ((n.toNat : Nat) : Int) = n ∧ n.toNat ≤ 1099511627776 := by unfold rng at h; omega
theorem num_put {w : Bs} {g : XMsg → Int} {p : XMsg → Int → XMsg} (hgp : ∀ m v, g (p m v) = v) {s : Bs} {m m' : XMsg} (h : (numF w g p).put s m = some m') : s ≠ [] ∧ (numF w g p).get m' = s ∧ ∃ v, rng v ∧ m' = p m v := by
  unfold numF at h ⊢
  dsimp only at h ⊢
  cases hv : numRd s with
  | none => rw [hv] at h; cases h
  | some v =>
    rw [hv] at h
    dsimp only at h
    obtain ⟨e1, e2⟩ := dec_numRd hv
    by_cases h0 : v = 0
    · rw [if_pos h0] at h; cases h
    · rw [if_neg h0] at h
      cases h
      rw [hgp, if_neg (by omega), Int.toNat_natCast]
      exact ⟨by rw [← e1]; exact dec_ne v, e1, _, ⟨by omega, by omega⟩, rfl⟩
theorem text_put {w : Bs} {g : XMsg → Bs} {p : XMsg → Bs → XMsg} (hgp : ∀ m v, g (p m v) = v) {s : Bs} {m m' : XMsg} (h : (textF w g p).put s m = some m') : s ≠ [] ∧ (textF w g p).get m' = s ∧ ∃ v, m' = p m v := by
  unfold textF at h ⊢
  dsimp only at h ⊢
  by_cases h0 : s = []
  · rw [if_pos h0] at h; cases h
  · rw [if_neg h0] at h
    obtain ⟨t, ht, rfl⟩ := Option.map_eq_some_iff.1 h
    rw [hgp]
    exact ⟨h0, hexs_hexRd _ _ ht, _, rfl⟩
theorem dTo_dOf (l : List (Bs × Nat)) : (l.map dOf).map dTo = l := by
  rw [List.map_map]
  have : dTo ∘ dOf = id := by funext x; simp [dTo, dOf]
  rw [this, List.map_id]
theorem sTo_sOf (l : List (Nat × Bs)) : (l.map sOf).map sTo = l := by
  rw [List.map_map]
  have : sTo ∘ sOf = id := by funext x; simp [sTo, sOf]
  rw [this, List.map_id]
theorem dOf_dTo : ∀ (l : List S_api_Dest), (∀ d ∈ l, rng d.seq) → (l.map dTo).map dOf = l
  | [], _ => rfl
  | d :: r, h => by
    have h1 := (rng_toNat (h d (by simp))).1
    rw [List.map_cons, List.map_cons, dOf_dTo r (fun x hx => h x (by simp [hx]))]
    unfold dTo dOf
    dsimp only
    rw [h1]
theorem sOf_sTo : ∀ (l : List S_api_Sub), (∀ d ∈ l, rng d.type_) → (l.map sTo).map sOf = l
  | [], _ => rfl
  | d :: r, h => by
    have h1 := (rng_toNat (h d (by simp))).1
    rw [List.map_cons, List.map_cons, sOf_sTo r (fun x hx => h x (by simp [hx]))]
    unfold sTo sOf
    dsimp only
    rw [h1]
theorem list_put {w : Bs} {g : XMsg → List S_api_Dest} {p : XMsg → List S_api_Dest → XMsg} (hgp : ∀ m v, g (p m v) = v) {s : Bs} {m m' : XMsg} (h : (listFd w g p).put s m = some m') : s ≠ [] ∧ (listFd w g p).get m' = s ∧ ∃ v : List S_api_Dest, (∀ d ∈ v, rng d.seq) ∧ m' = p m v := by
  unfold listFd at h ⊢
  dsimp only at h ⊢
  obtain ⟨l, hl, rfl⟩ := Option.map_eq_some_iff.1 h
  obtain ⟨e1, e2⟩ := listT_Rd hl
  rw [hgp, dTo_dOf, e1]
  refine ⟨?_, rfl, _, ?_, rfl⟩
  · intro e
    unfold listRd at hl
    rw [if_pos e] at hl
    cases hl
  · intro d hd
    obtain ⟨x, hx, rfl⟩ := List.mem_map.1 hd
    have := e2 x hx
    unfold rng dOf
    dsimp only
    omega
theorem subs_put {w : Bs} {g : XMsg → List S_api_Sub} {p : XMsg → List S_api_Sub → XMsg} (hgp : ∀ m v, g (p m v) = v) {s : Bs} {m m' : XMsg} (h : (subsFd w g p).put s m = some m') : s ≠ [] ∧ (subsFd w g p).get m' = s ∧ ∃ v : List S_api_Sub, (∀ d ∈ v, rng d.type_) ∧ m' = p m v := by
  unfold subsFd at h ⊢
  dsimp only at h ⊢
  obtain ⟨l, hl, rfl⟩ := Option.map_eq_some_iff.1 h
  obtain ⟨e1, e2⟩ := subsT_Rd hl
  rw [hgp, sTo_sOf, e1]
  refine ⟨?_, rfl, _, ?_, rfl⟩
  · intro e
    unfold subsRd at hl
    rw [if_pos e] at hl
    cases hl
  · intro d hd
    obtain ⟨x, hx, rfl⟩ := List.mem_map.1 hd
    have := e2 x hx
    unfold rng sOf
    dsimp only
    omega
theorem puts_cmd (s : Bs) (m m' : XMsg) (h : fd_cmd.put s m = some m') : s ≠ [] ∧ fd_cmd.get m' = s ∧ ∀ g ∈ fsM, g.w ≠ fd_cmd.w → g.get m' = g.get m := by
  obtain ⟨h1, h2, h3⟩ := num_put (fun _ _ => rfl) h
  refine ⟨h1, h2, ?_⟩
  obtain ⟨v, _, rfl⟩ := h3
  simp only [fsM, List.mem_cons, List.mem_nil_iff, or_false, forall_eq_or_imp, forall_eq]
  exact ⟨fun h => absurd rfl h, fun _ => rfl, fun _ => rfl, fun _ => rfl, fun _ => rfl, fun _ => rfl, fun _ => rfl, fun _ => rfl, fun _ => rfl, fun _ => rfl, fun _ => rfl, fun _ => rfl, fun _ => rfl, fun _ => rfl, fun _ => rfl, fun _ => rfl, fun _ => rfl, fun _ => rfl, fun _ => rfl, fun _ => rfl, fun _ => rfl, fun _ => rfl, fun _ => rfl, fun _ => rfl⟩
theorem puts_ver (s : Bs) (m m' : XMsg) (h : fd_ver.put s m = some m') : s ≠ [] ∧ fd_ver.get m' = s ∧ ∀ g ∈ fsM, g.w ≠ fd_ver.w → g.get m' = g.get m := by
  obtain ⟨h1, h2, h3⟩ := num_put (fun _ _ => rfl) h
  refine ⟨h1, h2, ?_⟩
  obtain ⟨v, _, rfl⟩ := h3
  simp only [fsM, List.mem_cons, List.mem_nil_iff, or_false, forall_eq_or_imp, forall_eq]
  exact ⟨fun _ => rfl, fun h => absurd rfl h, fun _ => rfl, fun _ => rfl, fun _ => rfl, fun _ => rfl, fun _ => rfl, fun _ => rfl, fun _ => rfl, fun _ => rfl, fun _ => rfl, fun _ => rfl, fun _ => rfl, fun _ => rfl, fun _ => rfl, fun _ => rfl, fun _ => rfl, fun _ => rfl, fun _ => rfl, fun _ => rfl, fun _ => rfl, fun _ => rfl, fun _ => rfl, fun _ => rfl⟩
theorem puts_auth (s : Bs) (m m' : XMsg) (h : fd_auth.put s m = some m') : s ≠ [] ∧ fd_auth.get m' = s ∧ ∀ g ∈ fsM, g.w ≠ fd_auth.w → g.get m' = g.get m := by
  obtain ⟨h1, h2, h3⟩ := text_put (fun _ _ => rfl) h
  refine ⟨h1, h2, ?_⟩
  obtain ⟨v, rfl⟩ := h3
  simp only [fsM, List.mem_cons, List.mem_nil_iff, or_false, forall_eq_or_imp, forall_eq]
  exact ⟨fun _ => rfl, fun _ => rfl, fun h => absurd rfl h, fun _ => rfl, fun _ => rfl, fun _ => rfl, fun _ => rfl, fun _ => rfl, fun _ => rfl, fun _ => rfl, fun _ => rfl, fun _ => rfl, fun _ => rfl, fun _ => rfl, fun _ => rfl, fun _ => rfl, fun _ => rfl, fun _ => rfl, fun _ => rfl, fun _ => rfl, fun _ => rfl, fun _ => rfl, fun _ => rfl, fun _ => rfl⟩
theorem puts_family (s : Bs) (m m' : XMsg) (h : fd_family.put s m = some m') : s ≠ [] ∧ fd_family.get m' = s ∧ ∀ g ∈ fsM, g.w ≠ fd_family.w → g.get m' = g.get m := by
  obtain ⟨h1, h2, h3⟩ := num_put (fun _ _ => rfl) h
  refine ⟨h1, h2, ?_⟩
  obtain ⟨v, _, rfl⟩ := h3
  simp only [fsM, List.mem_cons, List.mem_nil_iff, or_false, forall_eq_or_imp, forall_eq]
  exact ⟨fun _ => rfl, fun _ => rfl, fun _ => rfl, fun h => absurd rfl h, fun _ => rfl, fun _ => rfl, fun _ => rfl, fun _ => rfl, fun _ => rfl, fun _ => rfl, fun _ => rfl, fun _ => rfl, fun _ => rfl, fun _ => rfl, fun _ => rfl, fun _ => rfl, fun _ => rfl, fun _ => rfl, fun _ => rfl, fun _ => rfl, fun _ => rfl, fun _ => rfl, fun _ => rfl, fun _ => rfl⟩
theorem puts_ae (s : Bs) (m m' : XMsg) (h : fd_ae.put s m = some m') : s ≠ [] ∧ fd_ae.get m' = s ∧ ∀ g ∈ fsM, g.w ≠ fd_ae.w → g.get m' = g.get m := by
  obtain ⟨h1, h2, h3⟩ := num_put (fun _ _ => rfl) h
  refine ⟨h1, h2, ?_⟩
  obtain ⟨v, _, rfl⟩ := h3
  simp only [fsM, List.mem_cons, List.mem_nil_iff, or_false, forall_eq_or_imp, forall_eq]
  exact ⟨fun _ => rfl, fun _ => rfl, fun _ => rfl, fun _ => rfl, fun h => absurd rfl h, fun _ => rfl, fun _ => rfl, fun _ => rfl, fun _ => rfl, fun _ => rfl, fun _ => rfl, fun _ => rfl, fun _ => rfl, fun _ => rfl, fun _ => rfl, fun _ => rfl, fun _ => rfl, fun _ => rfl, fun _ => rfl, fun _ => rfl, fun _ => rfl, fun _ => rfl, fun _ => rfl, fun _ => rfl⟩
theorem puts_prefix_ (s : Bs) (m m' : XMsg) (h : fd_prefix_.put s m = some m') : s ≠ [] ∧ fd_prefix_.get m' = s ∧ ∀ g ∈ fsM, g.w ≠ fd_prefix_.w → g.get m' = g.get m := by
  obtain ⟨h1, h2, h3⟩ := text_put (fun _ _ => rfl) h
  refine ⟨h1, h2, ?_⟩
  obtain ⟨v, rfl⟩ := h3
  simp only [fsM, List.mem_cons, List.mem_nil_iff, or_false, forall_eq_or_imp, forall_eq]
  exact ⟨fun _ => rfl, fun _ => rfl, fun _ => rfl, fun _ => rfl, fun _ => rfl, fun h => absurd rfl h, fun _ => rfl, fun _ => rfl, fun _ => rfl, fun _ => rfl, fun _ => rfl, fun _ => rfl, fun _ => rfl, fun _ => rfl, fun _ => rfl, fun _ => rfl, fun _ => rfl, fun _ => rfl, fun _ => rfl, fun _ => rfl, fun _ => rfl, fun _ => rfl, fun _ => rfl, fun _ => rfl⟩
theorem puts_plen (s : Bs) (m m' : XMsg) (h : fd_plen.put s m = some m') : s ≠ [] ∧ fd_plen.get m' = s ∧ ∀ g ∈ fsM, g.w ≠ fd_plen.w → g.get m' = g.get m := by
  obtain ⟨h1, h2, h3⟩ := num_put (fun _ _ => rfl) h
  refine ⟨h1, h2, ?_⟩
  obtain ⟨v, _, rfl⟩ := h3
  simp only [fsM, List.mem_cons, List.mem_nil_iff, or_false, forall_eq_or_imp, forall_eq]
  exact ⟨fun _ => rfl, fun _ => rfl, fun _ => rfl, fun _ => rfl, fun _ => rfl, fun _ => rfl, fun h => absurd rfl h, fun _ => rfl, fun _ => rfl, fun _ => rfl, fun _ => rfl, fun _ => rfl, fun _ => rfl, fun _ => rfl, fun _ => rfl, fun _ => rfl, fun _ => rfl, fun _ => rfl, fun _ => rfl, fun _ => rfl, fun _ => rfl, fun _ => rfl, fun _ => rfl, fun _ => rfl⟩
theorem puts_tag (s : Bs) (m m' : XMsg) (h : fd_tag.put s m = some m') : s ≠ [] ∧ fd_tag.get m' = s ∧ ∀ g ∈ fsM, g.w ≠ fd_tag.w → g.get m' = g.get m := by
  obtain ⟨h1, h2, h3⟩ := num_put (fun _ _ => rfl) h
  refine ⟨h1, h2, ?_⟩
  obtain ⟨v, _, rfl⟩ := h3
  simp only [fsM, List.mem_cons, List.mem_nil_iff, or_false, forall_eq_or_imp, forall_eq]
  exact ⟨fun _ => rfl, fun _ => rfl, fun _ => rfl, fun _ => rfl, fun _ => rfl, fun _ => rfl, fun _ => rfl, fun h => absurd rfl h, fun _ => rfl, fun _ => rfl, fun _ => rfl, fun _ => rfl, fun _ => rfl, fun _ => rfl, fun _ => rfl, fun _ => rfl, fun _ => rfl, fun _ => rfl, fun _ => rfl, fun _ => rfl, fun _ => rfl, fun _ => rfl, fun _ => rfl, fun _ => rfl⟩
theorem puts_next (s : Bs) (m m' : XMsg) (h : fd_next.put s m = some m') : s ≠ [] ∧ fd_next.get m' = s ∧ ∀ g ∈ fsM, g.w ≠ fd_next.w → g.get m' = g.get m := by
  obtain ⟨h1, h2, h3⟩ := text_put (fun _ _ => rfl) h
  refine ⟨h1, h2, ?_⟩
  obtain ⟨v, rfl⟩ := h3
  simp only [fsM, List.mem_cons, List.mem_nil_iff, or_false, forall_eq_or_imp, forall_eq]
  exact ⟨fun _ => rfl, fun _ => rfl, fun _ => rfl, fun _ => rfl, fun _ => rfl, fun _ => rfl, fun _ => rfl, fun _ => rfl, fun h => absurd rfl h, fun _ => rfl, fun _ => rfl, fun _ => rfl, fun _ => rfl, fun _ => rfl, fun _ => rfl, fun _ => rfl, fun _ => rfl, fun _ => rfl, fun _ => rfl, fun _ => rfl, fun _ => rfl, fun _ => rfl, fun _ => rfl, fun _ => rfl⟩
theorem puts_metric (s : Bs) (m m' : XMsg) (h : fd_metric.put s m = some m') : s ≠ [] ∧ fd_metric.get m' = s ∧ ∀ g ∈ fsM, g.w ≠ fd_metric.w → g.get m' = g.get m := by
  obtain ⟨h1, h2, h3⟩ := num_put (fun _ _ => rfl) h
  refine ⟨h1, h2, ?_⟩
  obtain ⟨v, _, rfl⟩ := h3
  simp only [fsM, List.mem_cons, List.mem_nil_iff, or_false, forall_eq_or_imp, forall_eq]
  exact ⟨fun _ => rfl, fun _ => rfl, fun _ => rfl, fun _ => rfl, fun _ => rfl, fun _ => rfl, fun _ => rfl, fun _ => rfl, fun _ => rfl, fun h => absurd rfl h, fun _ => rfl, fun _ => rfl, fun _ => rfl, fun _ => rfl, fun _ => rfl, fun _ => rfl, fun _ => rfl, fun _ => rfl, fun _ => rfl, fun _ => rfl, fun _ => rfl, fun _ => rfl, fun _ => rfl, fun _ => rfl⟩
theorem puts_id (s : Bs) (m m' : XMsg) (h : fd_id.put s m = some m') : s ≠ [] ∧ fd_id.get m' = s ∧ ∀ g ∈ fsM, g.w ≠ fd_id.w → g.get m' = g.get m := by
  obtain ⟨h1, h2, h3⟩ := text_put (fun _ _ => rfl) h
  refine ⟨h1, h2, ?_⟩
  obtain ⟨v, rfl⟩ := h3
  simp only [fsM, List.mem_cons, List.mem_nil_iff, or_false, forall_eq_or_imp, forall_eq]
  exact ⟨fun _ => rfl, fun _ => rfl, fun _ => rfl, fun _ => rfl, fun _ => rfl, fun _ => rfl, fun _ => rfl, fun _ => rfl, fun _ => rfl, fun _ => rfl, fun h => absurd rfl h, fun _ => rfl, fun _ => rfl, fun _ => rfl, fun _ => rfl, fun _ => rfl, fun _ => rfl, fun _ => rfl, fun _ => rfl, fun _ => rfl, fun _ => rfl, fun _ => rfl, fun _ => rfl, fun _ => rfl⟩
theorem puts_seq (s : Bs) (m m' : XMsg) (h : fd_seq.put s m = some m') : s ≠ [] ∧ fd_seq.get m' = s ∧ ∀ g ∈ fsM, g.w ≠ fd_seq.w → g.get m' = g.get m := by
  obtain ⟨h1, h2, h3⟩ := num_put (fun _ _ => rfl) h
  refine ⟨h1, h2, ?_⟩
  obtain ⟨v, _, rfl⟩ := h3
  simp only [fsM, List.mem_cons, List.mem_nil_iff, or_false, forall_eq_or_imp, forall_eq]
  exact ⟨fun _ => rfl, fun _ => rfl, fun _ => rfl, fun _ => rfl, fun _ => rfl, fun _ => rfl, fun _ => rfl, fun _ => rfl, fun _ => rfl, fun _ => rfl, fun _ => rfl, fun h => absurd rfl h, fun _ => rfl, fun _ => rfl, fun _ => rfl, fun _ => rfl, fun _ => rfl, fun _ => rfl, fun _ => rfl, fun _ => rfl, fun _ => rfl, fun _ => rfl, fun _ => rfl, fun _ => rfl⟩
theorem puts_seq2 (s : Bs) (m m' : XMsg) (h : fd_seq2.put s m = some m') : s ≠ [] ∧ fd_seq2.get m' = s ∧ ∀ g ∈ fsM, g.w ≠ fd_seq2.w → g.get m' = g.get m := by
  obtain ⟨h1, h2, h3⟩ := num_put (fun _ _ => rfl) h
  refine ⟨h1, h2, ?_⟩
  obtain ⟨v, _, rfl⟩ := h3
  simp only [fsM, List.mem_cons, List.mem_nil_iff, or_false, forall_eq_or_imp, forall_eq]
  exact ⟨fun _ => rfl, fun _ => rfl, fun _ => rfl, fun _ => rfl, fun _ => rfl, fun _ => rfl, fun _ => rfl, fun _ => rfl, fun _ => rfl, fun _ => rfl, fun _ => rfl, fun _ => rfl, fun h => absurd rfl h, fun _ => rfl, fun _ => rfl, fun _ => rfl, fun _ => rfl, fun _ => rfl, fun _ => rfl, fun _ => rfl, fun _ => rfl, fun _ => rfl, fun _ => rfl, fun _ => rfl⟩
theorem puts_interval (s : Bs) (m m' : XMsg) (h : fd_interval.put s m = some m') : s ≠ [] ∧ fd_interval.get m' = s ∧ ∀ g ∈ fsM, g.w ≠ fd_interval.w → g.get m' = g.get m := by
  obtain ⟨h1, h2, h3⟩ := num_put (fun _ _ => rfl) h
  refine ⟨h1, h2, ?_⟩
  obtain ⟨v, _, rfl⟩ := h3
  simp only [fsM, List.mem_cons, List.mem_nil_iff, or_false, forall_eq_or_imp, forall_eq]
  exact ⟨fun _ => rfl, fun _ => rfl, fun _ => rfl, fun _ => rfl, fun _ => rfl, fun _ => rfl, fun _ => rfl, fun _ => rfl, fun _ => rfl, fun _ => rfl, fun _ => rfl, fun _ => rfl, fun _ => rfl, fun h => absurd rfl h, fun _ => rfl, fun _ => rfl, fun _ => rfl, fun _ => rfl, fun _ => rfl, fun _ => rfl, fun _ => rfl, fun _ => rfl, fun _ => rfl, fun _ => rfl⟩
theorem puts_flags (s : Bs) (m m' : XMsg) (h : fd_flags.put s m = some m') : s ≠ [] ∧ fd_flags.get m' = s ∧ ∀ g ∈ fsM, g.w ≠ fd_flags.w → g.get m' = g.get m := by
  obtain ⟨h1, h2, h3⟩ := num_put (fun _ _ => rfl) h
  refine ⟨h1, h2, ?_⟩
  obtain ⟨v, _, rfl⟩ := h3
  simp only [fsM, List.mem_cons, List.mem_nil_iff, or_false, forall_eq_or_imp, forall_eq]
  exact ⟨fun _ => rfl, fun _ => rfl, fun _ => rfl, fun _ => rfl, fun _ => rfl, fun _ => rfl, fun _ => rfl, fun _ => rfl, fun _ => rfl, fun _ => rfl, fun _ => rfl, fun _ => rfl, fun _ => rfl, fun _ => rfl, fun h => absurd rfl h, fun _ => rfl, fun _ => rfl, fun _ => rfl, fun _ => rfl, fun _ => rfl, fun _ => rfl, fun _ => rfl, fun _ => rfl, fun _ => rfl⟩
theorem puts_hops (s : Bs) (m m' : XMsg) (h : fd_hops.put s m = some m') : s ≠ [] ∧ fd_hops.get m' = s ∧ ∀ g ∈ fsM, g.w ≠ fd_hops.w → g.get m' = g.get m := by
  obtain ⟨h1, h2, h3⟩ := num_put (fun _ _ => rfl) h
  refine ⟨h1, h2, ?_⟩
  obtain ⟨v, _, rfl⟩ := h3
  simp only [fsM, List.mem_cons, List.mem_nil_iff, or_false, forall_eq_or_imp, forall_eq]
  exact ⟨fun _ => rfl, fun _ => rfl, fun _ => rfl, fun _ => rfl, fun _ => rfl, fun _ => rfl, fun _ => rfl, fun _ => rfl, fun _ => rfl, fun _ => rfl, fun _ => rfl, fun _ => rfl, fun _ => rfl, fun _ => rfl, fun _ => rfl, fun h => absurd rfl h, fun _ => rfl, fun _ => rfl, fun _ => rfl, fun _ => rfl, fun _ => rfl, fun _ => rfl, fun _ => rfl, fun _ => rfl⟩
theorem puts_nonce (s : Bs) (m m' : XMsg) (h : fd_nonce.put s m = some m') : s ≠ [] ∧ fd_nonce.get m' = s ∧ ∀ g ∈ fsM, g.w ≠ fd_nonce.w → g.get m' = g.get m := by
  obtain ⟨h1, h2, h3⟩ := num_put (fun _ _ => rfl) h
  refine ⟨h1, h2, ?_⟩
  obtain ⟨v, _, rfl⟩ := h3
  simp only [fsM, List.mem_cons, List.mem_nil_iff, or_false, forall_eq_or_imp, forall_eq]
  exact ⟨fun _ => rfl, fun _ => rfl, fun _ => rfl, fun _ => rfl, fun _ => rfl, fun _ => rfl, fun _ => rfl, fun _ => rfl, fun _ => rfl, fun _ => rfl, fun _ => rfl, fun _ => rfl, fun _ => rfl, fun _ => rfl, fun _ => rfl, fun _ => rfl, fun h => absurd rfl h, fun _ => rfl, fun _ => rfl, fun _ => rfl, fun _ => rfl, fun _ => rfl, fun _ => rfl, fun _ => rfl⟩
theorem puts_cost (s : Bs) (m m' : XMsg) (h : fd_cost.put s m = some m') : s ≠ [] ∧ fd_cost.get m' = s ∧ ∀ g ∈ fsM, g.w ≠ fd_cost.w → g.get m' = g.get m := by
  obtain ⟨h1, h2, h3⟩ := num_put (fun _ _ => rfl) h
  refine ⟨h1, h2, ?_⟩
  obtain ⟨v, _, rfl⟩ := h3
  simp only [fsM, List.mem_cons, List.mem_nil_iff, or_false, forall_eq_or_imp, forall_eq]
  exact ⟨fun _ => rfl, fun _ => rfl, fun _ => rfl, fun _ => rfl, fun _ => rfl, fun _ => rfl, fun _ => rfl, fun _ => rfl, fun _ => rfl, fun _ => rfl, fun _ => rfl, fun _ => rfl, fun _ => rfl, fun _ => rfl, fun _ => rfl, fun _ => rfl, fun _ => rfl, fun h => absurd rfl h, fun _ => rfl, fun _ => rfl, fun _ => rfl, fun _ => rfl, fun _ => rfl, fun _ => rfl⟩
theorem puts_addr (s : Bs) (m m' : XMsg) (h : fd_addr.put s m = some m') : s ≠ [] ∧ fd_addr.get m' = s ∧ ∀ g ∈ fsM, g.w ≠ fd_addr.w → g.get m' = g.get m := by
  obtain ⟨h1, h2, h3⟩ := text_put (fun _ _ => rfl) h
  refine ⟨h1, h2, ?_⟩
  obtain ⟨v, rfl⟩ := h3
  simp only [fsM, List.mem_cons, List.mem_nil_iff, or_false, forall_eq_or_imp, forall_eq]
  exact ⟨fun _ => rfl, fun _ => rfl, fun _ => rfl, fun _ => rfl, fun _ => rfl, fun _ => rfl, fun _ => rfl, fun _ => rfl, fun _ => rfl, fun _ => rfl, fun _ => rfl, fun _ => rfl, fun _ => rfl, fun _ => rfl, fun _ => rfl, fun _ => rfl, fun _ => rfl, fun _ => rfl, fun h => absurd rfl h, fun _ => rfl, fun _ => rfl, fun _ => rfl, fun _ => rfl, fun _ => rfl⟩
theorem puts_orig (s : Bs) (m m' : XMsg) (h : fd_orig.put s m = some m') : s ≠ [] ∧ fd_orig.get m' = s ∧ ∀ g ∈ fsM, g.w ≠ fd_orig.w → g.get m' = g.get m := by
  obtain ⟨h1, h2, h3⟩ := text_put (fun _ _ => rfl) h
  refine ⟨h1, h2, ?_⟩
  obtain ⟨v, rfl⟩ := h3
  simp only [fsM, List.mem_cons, List.mem_nil_iff, or_false, forall_eq_or_imp, forall_eq]
  exact ⟨fun _ => rfl, fun _ => rfl, fun _ => rfl, fun _ => rfl, fun _ => rfl, fun _ => rfl, fun _ => rfl, fun _ => rfl, fun _ => rfl, fun _ => rfl, fun _ => rfl, fun _ => rfl, fun _ => rfl, fun _ => rfl, fun _ => rfl, fun _ => rfl, fun _ => rfl, fun _ => rfl, fun _ => rfl, fun h => absurd rfl h, fun _ => rfl, fun _ => rfl, fun _ => rfl, fun _ => rfl⟩
theorem puts_list (s : Bs) (m m' : XMsg) (h : fd_list.put s m = some m') : s ≠ [] ∧ fd_list.get m' = s ∧ ∀ g ∈ fsM, g.w ≠ fd_list.w → g.get m' = g.get m := by
  obtain ⟨h1, h2, h3⟩ := list_put (fun _ _ => rfl) h
  refine ⟨h1, h2, ?_⟩
  obtain ⟨v, _, rfl⟩ := h3
  simp only [fsM, List.mem_cons, List.mem_nil_iff, or_false, forall_eq_or_imp, forall_eq]
  exact ⟨fun _ => rfl, fun _ => rfl, fun _ => rfl, fun _ => rfl, fun _ => rfl, fun _ => rfl, fun _ => rfl, fun _ => rfl, fun _ => rfl, fun _ => rfl, fun _ => rfl, fun _ => rfl, fun _ => rfl, fun _ => rfl, fun _ => rfl, fun _ => rfl, fun _ => rfl, fun _ => rfl, fun _ => rfl, fun _ => rfl, fun h => absurd rfl h, fun _ => rfl, fun _ => rfl, fun _ => rfl⟩
theorem puts_type_ (s : Bs) (m m' : XMsg) (h : fd_type_.put s m = some m') : s ≠ [] ∧ fd_type_.get m' = s ∧ ∀ g ∈ fsM, g.w ≠ fd_type_.w → g.get m' = g.get m := by
  obtain ⟨h1, h2, h3⟩ := num_put (fun _ _ => rfl) h
  refine ⟨h1, h2, ?_⟩
  obtain ⟨v, _, rfl⟩ := h3
  simp only [fsM, List.mem_cons, List.mem_nil_iff, or_false, forall_eq_or_imp, forall_eq]
  exact ⟨fun _ => rfl, fun _ => rfl, fun _ => rfl, fun _ => rfl, fun _ => rfl, fun _ => rfl, fun _ => rfl, fun _ => rfl, fun _ => rfl, fun _ => rfl, fun _ => rfl, fun _ => rfl, fun _ => rfl, fun _ => rfl, fun _ => rfl, fun _ => rfl, fun _ => rfl, fun _ => rfl, fun _ => rfl, fun _ => rfl, fun _ => rfl, fun h => absurd rfl h, fun _ => rfl, fun _ => rfl⟩
theorem puts_data (s : Bs) (m m' : XMsg) (h : fd_data.put s m = some m') : s ≠ [] ∧ fd_data.get m' = s ∧ ∀ g ∈ fsM, g.w ≠ fd_data.w → g.get m' = g.get m := by
  obtain ⟨h1, h2, h3⟩ := text_put (fun _ _ => rfl) h
  refine ⟨h1, h2, ?_⟩
  obtain ⟨v, rfl⟩ := h3
  simp only [fsM, List.mem_cons, List.mem_nil_iff, or_false, forall_eq_or_imp, forall_eq]
  exact ⟨fun _ => rfl, fun _ => rfl, fun _ => rfl, fun _ => rfl, fun _ => rfl, fun _ => rfl, fun _ => rfl, fun _ => rfl, fun _ => rfl, fun _ => rfl, fun _ => rfl, fun _ => rfl, fun _ => rfl, fun _ => rfl, fun _ => rfl, fun _ => rfl, fun _ => rfl, fun _ => rfl, fun _ => rfl, fun _ => rfl, fun _ => rfl, fun _ => rfl, fun h => absurd rfl h, fun _ => rfl⟩
theorem puts_subs (s : Bs) (m m' : XMsg) (h : fd_subs.put s m = some m') : s ≠ [] ∧ fd_subs.get m' = s ∧ ∀ g ∈ fsM, g.w ≠ fd_subs.w → g.get m' = g.get m := by
  obtain ⟨h1, h2, h3⟩ := subs_put (fun _ _ => rfl) h
  refine ⟨h1, h2, ?_⟩
  obtain ⟨v, _, rfl⟩ := h3
  simp only [fsM, List.mem_cons, List.mem_nil_iff, or_false, forall_eq_or_imp, forall_eq]
  exact ⟨fun _ => rfl, fun _ => rfl, fun _ => rfl, fun _ => rfl, fun _ => rfl, fun _ => rfl, fun _ => rfl, fun _ => rfl, fun _ => rfl, fun _ => rfl, fun _ => rfl, fun _ => rfl, fun _ => rfl, fun _ => rfl, fun _ => rfl, fun _ => rfl, fun _ => rfl, fun _ => rfl, fun _ => rfl, fun _ => rfl, fun _ => rfl, fun _ => rfl, fun _ => rfl, fun h => absurd rfl h⟩
theorem fsM_puts : Puts fsM := by
  unfold Puts
  intro f hf
  simp only [fsM, List.mem_cons, List.mem_nil_iff, or_false] at hf
  rcases hf with rfl | rfl | rfl | rfl | rfl | rfl | rfl | rfl | rfl | rfl | rfl | rfl | rfl | rfl | rfl | rfl | rfl | rfl | rfl | rfl | rfl | rfl | rfl | rfl
  · exact puts_cmd
  · exact puts_ver
  · exact puts_auth
  · exact puts_family
  · exact puts_ae
  · exact puts_prefix_
  · exact puts_plen
  · exact puts_tag
  · exact puts_next
  · exact puts_metric
  · exact puts_id
  · exact puts_seq
  · exact puts_seq2
  · exact puts_interval
  · exact puts_flags
  · exact puts_hops
  · exact puts_nonce
  · exact puts_cost
  · exact puts_addr
  · exact puts_orig
  · exact puts_list
  · exact puts_type_
  · exact puts_data
  · exact puts_subs
theorem num_step {w : Bs} {g : XMsg → Int} {p : XMsg → Int → XMsg} {r : List (TFd XMsg)} {m m0 m1 : XMsg} (hz : p m0 0 = m0) (hr : rng (g m)) (h : Chain m r (p m0 (g m)) m1) : Chain m (numF w g p :: r) m0 m1 := by
  rw [Chain]
  by_cases h0 : g m = 0
  · rw [h0, hz] at h
    rw [if_pos (show (numF w g p).get m = [] from if_pos h0)]
    exact h
  · have e : (numF w g p).get m = decT (g m).toNat := if_neg h0
    obtain ⟨r1, r2⟩ := rng_toNat hr
    rw [if_neg (by rw [e]; exact dec_ne _)]
    refine ⟨_, ?_, h⟩
    rw [e]
    show (match numRd (decT (g m).toNat) with | some v => if v = 0 then none else some (p m0 (v : Int)) | none => none) = _
    rw [numRd_dec r2]
    dsimp only
    rw [if_neg (by omega), r1]
theorem text_step {w : Bs} {g : XMsg → Bs} {p : XMsg → Bs → XMsg} {r : List (TFd XMsg)} {m m0 m1 : XMsg} (hz : p m0 [] = m0) (h : Chain m r (p m0 (g m)) m1) : Chain m (textF w g p :: r) m0 m1 := by
  rw [Chain]
  by_cases h0 : g m = []
  · rw [h0, hz] at h
    rw [if_pos (show (textF w g p).get m = [] from (hexs_nil _).2 h0)]
    exact h
  · have e : hexs (g m) ≠ [] := fun e => h0 ((hexs_nil _).1 e)
    rw [if_neg (show ¬ (textF w g p).get m = [] from e)]
    refine ⟨_, ?_, h⟩
    show (if hexs (g m) = [] then none else (hexRd (hexs (g m))).map (p m0)) = _
    rw [if_neg e, hexRd_hexs]; rfl
theorem list_step {w : Bs} {g : XMsg → List S_api_Dest} {p : XMsg → List S_api_Dest → XMsg} {r : List (TFd XMsg)} {m m0 m1 : XMsg} (hz : p m0 [] = m0) (hr : ∀ d ∈ g m, rng d.seq) (h : Chain m r (p m0 (g m)) m1) : Chain m (listFd w g p :: r) m0 m1 := by
  rw [Chain]
  by_cases h0 : g m = []
  · rw [h0, hz] at h
    rw [if_pos (show (listFd w g p).get m = [] from (listT_nil _).2 (by rw [h0]; rfl))]
    exact h
  · have e : (g m).map dTo ≠ [] := by simpa using h0
    rw [if_neg (show ¬ (listFd w g p).get m = [] from fun x => e ((listT_nil _).1 x))]
    refine ⟨_, ?_, h⟩
    show (listRd (listT ((g m).map dTo))).map (fun l => p m0 (l.map dOf)) = _
    rw [listRd_T e (fun x hx => by
      obtain ⟨d, hd, rfl⟩ := List.mem_map.1 hx
      exact (rng_toNat (hr d hd)).2)]
    show some (p m0 (((g m).map dTo).map dOf)) = _
    rw [dOf_dTo _ hr]
theorem subs_step {w : Bs} {g : XMsg → List S_api_Sub} {p : XMsg → List S_api_Sub → XMsg} {r : List (TFd XMsg)} {m m0 m1 : XMsg} (hz : p m0 [] = m0) (hr : ∀ d ∈ g m, rng d.type_) (h : Chain m r (p m0 (g m)) m1) : Chain m (subsFd w g p :: r) m0 m1 := by
  rw [Chain]
  by_cases h0 : g m = []
  · rw [h0, hz] at h
    rw [if_pos (show (subsFd w g p).get m = [] from (subsT_nil _).2 (by rw [h0]; rfl))]
    exact h
  · have e : (g m).map sTo ≠ [] := by simpa using h0
    rw [if_neg (show ¬ (subsFd w g p).get m = [] from fun x => e ((subsT_nil _).1 x))]
    refine ⟨_, ?_, h⟩
    show (subsRd (subsT ((g m).map sTo))).map (fun l => p m0 (l.map sOf)) = _
    rw [subsRd_T e (fun x hx => by
      obtain ⟨d, hd, rfl⟩ := List.mem_map.1 hx
      exact (rng_toNat (hr d hd)).2)]
    show some (p m0 (((g m).map sTo).map sOf)) = _
    rw [sOf_sTo _ hr]
theorem chainM {m : XMsg} (h : Nums m) : Chain m fsM (zeroM m.kind) m := by
  refine num_step rfl h.cmd ?_
  refine num_step rfl h.ver ?_
  refine text_step rfl ?_
  refine num_step rfl h.family ?_
  refine num_step rfl h.ae ?_
  refine text_step rfl ?_
  refine num_step rfl h.plen ?_
  refine num_step rfl h.tag ?_
  refine text_step rfl ?_
  refine num_step rfl h.metric ?_
  refine text_step rfl ?_
  refine num_step rfl h.seq ?_
  refine num_step rfl h.seq2 ?_
  refine num_step rfl h.interval ?_
  refine num_step rfl h.flags ?_
  refine num_step rfl h.hops ?_
  refine num_step rfl h.nonce ?_
  refine num_step rfl h.cost ?_
  refine text_step rfl ?_
  refine text_step rfl ?_
  refine list_step rfl h.list ?_
  refine num_step rfl h.type_ ?_
  refine text_step rfl ?_
  refine subs_step rfl h.subs ?_
  show _ = m
  cases m
  rfl
theorem get_no (m : XMsg) : ∀ f ∈ fsM, (32 : UInt8) ∉ f.get m := by
  intro f hf
  simp only [fsM, List.mem_cons, List.mem_nil_iff, or_false] at hf
  have N : ∀ w g p, (32 : UInt8) ∉ (numF w g p).get m := fun w g p => by
    unfold numF
    dsimp only
    split
    · simp
    · exact dec_no 32 no32 _
  have T : ∀ w g p, (32 : UInt8) ∉ (textF w g p).get m := fun w g p => hexs_no 32 no32 _
  have L : ∀ w g p, (32 : UInt8) ∉ (listFd w g p).get m := fun w g p => joinC_no 32 44 (by decide) _ (fun x hx => by obtain ⟨y, _, rfl⟩ := List.mem_map.1 hx; exact destT_no 32 no32 (by decide) y)
  have S : ∀ w g p, (32 : UInt8) ∉ (subsFd w g p).get m := fun w g p => joinC_no 32 44 (by decide) _ (fun x hx => by obtain ⟨y, _, rfl⟩ := List.mem_map.1 hx; exact subT_no 32 no32 (by decide) y)
  rcases hf with rfl | rfl | rfl | rfl | rfl | rfl | rfl | rfl | rfl | rfl | rfl | rfl | rfl | rfl | rfl | rfl | rfl | rfl | rfl | rfl | rfl | rfl | rfl | rfl
  · exact N _ _ _
  · exact N _ _ _
  · exact T _ _ _
  · exact N _ _ _
  · exact N _ _ _
  · exact T _ _ _
  · exact N _ _ _
  · exact N _ _ _
  · exact T _ _ _
  · exact N _ _ _
  · exact T _ _ _
  · exact N _ _ _
  · exact N _ _ _
  · exact N _ _ _
  · exact N _ _ _
  · exact N _ _ _
  · exact N _ _ _
  · exact N _ _ _
  · exact T _ _ _
  · exact T _ _ _
  · exact L _ _ _
  · exact N _ _ _
  · exact T _ _ _
  · exact S _ _ _
end Go.VP
set_option linter.unusedVariables false
set_option linter.unusedSimpArgs false
set_option maxRecDepth 100000
namespace Go.VP
open Go Go.VI
theorem u8d : ∀ r : Nat, r < 10 → u8of (IntKind.wrap .u8 (((48 + r : Nat)) : Int)) = digitC r := by decide +kernel
theorem r29num_loop {n : Nat} : ∀ (k m v : Nat) (acc : Bs), v < 10 ^ k → 1 ≤ k → k ≤ m → v ≤ 1099511627776 → acc.length + k ≤ 100 → L_ref29_number_1 n m v acc false = some ((numR 10 k v ++ acc, ()), ())
  | k + 1, m, v, acc, hv, _, hm, h6, ha => by
    obtain ⟨m, rfl⟩ : ∃ k, m = k + 1 := ⟨m - 1, by omega⟩
    have e1 : ((v : Int).tmod 10) = ((v % 10 : Nat) : Int) := by rw [Int.tmod_eq_emod_of_nonneg (by omega)]; simp
    have e2 : ((v : Int).tdiv 10) = ((v / 10 : Nat) : Int) := by rw [Int.tdiv_eq_ediv_of_nonneg (by omega)]; simp
    have e3 : (48 + ((v % 10 : Nat) : Int)) = ((48 + v % 10 : Nat) : Int) := by omega
    rw [L_ref29_number_1_eq, e1, e2, e3, w64 (x := ((48 + v % 10 : Nat) : Int)) (by omega) (by omega), u8d (v % 10) (by omega), w64 (x := ((v / 10 : Nat) : Int)) (by omega) (by omega), if_pos (maxB_of (by simp; omega)), numR]
    by_cases h : v < 10
    · rw [if_pos (by rw [beq_iff_eq]; omega), if_pos h, Nat.mod_eq_of_lt h]
    · have h1 : v / 10 < 10 ^ k := by rw [Nat.pow_succ] at hv; omega
      have k1 : 1 ≤ k := by cases k with | zero => simp at hv; omega | succ k => omega
      rw [if_neg (by rw [beq_iff_eq]; omega), if_neg h, r29num_loop k m (v / 10) _ h1 k1 (by omega) (by omega) (by simp; omega), List.append_assoc]
theorem r29number_is {v : Nat} (h : v ≤ 1099511627776) : g_ref29_number ((v : Int), ()) = some ((decT v, ()), ()) := by
  show h_ref29_number fuel _ = _
  rw [h_ref29_number_eq]
  have := r29num_loop (n := fuel) 13 fuel v [] (by omega) (by omega) (Nat.le_of_lt (fuel_ge (by decide))) h (by simp)
  rw [List.append_nil] at this
  rw [show decT v = numR 10 13 v from rfl, ← this]
  obtain ⟨k, hk⟩ : ∃ k, fuel = k + 1 := ⟨1125899906842623, rfl⟩
  rw [show ∀ m, L_ref29_number_0 m fuel v [] = L_ref29_number_0 m (k + 1) v [] from fun m => by rw [hk], show ∀ m, L_ref29_number_1 m fuel v [] false = L_ref29_number_1 m (k + 1) v [] false from fun m => by rw [hk], L_ref29_number_0_eq, L_ref29_number_1_eq]
theorem hexs_append : ∀ (a b : Bs), hexs (a ++ b) = hexs a ++ hexs b
  | [], b => rfl
  | x :: r, b => by rw [List.cons_append, hexs, hexs, hexs_append r b]; rfl
theorem hexs_len : ∀ (a : Bs), (hexs a).length = 2 * a.length
  | [] => rfl
  | x :: r => by rw [hexs, List.length_cons, List.length_cons, hexs_len r, List.length_cons]; omega
theorem r29hex_loop {n : Nat} {s : Bs} (hs : s.length ≤ 1000000000) : ∀ (d i m : Nat), i + d = s.length → d < m → L_ref29_hex_0 n m s (hexs (s.take i)) i = some ((hexs s, ()), ())
  | 0, i, m, h, hm => by
    obtain ⟨m, rfl⟩ : ∃ k, m = k + 1 := ⟨m - 1, by omega⟩
    rw [L_ref29_hex_0_eq, ifn (by omega), List.take_of_length_le (by omega)]
  | d + 1, i, m, h, hm => by
    obtain ⟨m, rfl⟩ : ∃ k, m = k + 1 := ⟨m - 1, by omega⟩
    have hi : i < s.length := by omega
    have hb := (s[i]).toNat_lt
    have hl : (hexs (s.take i)).length = 2 * i := by rw [hexs_len, List.length_take]; omega
    have e1 : (((s[i]).toNat : Int).tdiv 16) = (((s[i]).toNat / 16 : Nat) : Int) := by rw [Int.tdiv_eq_ediv_of_nonneg (by omega)]; simp
    have e2 : (((s[i]).toNat : Int).tmod 16) = (((s[i]).toNat % 16 : Nat) : Int) := by rw [Int.tmod_eq_emod_of_nonneg (by omega)]; simp
    have c : ∀ r : Nat, r < 16 → ((([48, 49, 50, 51, 52, 53, 54, 55, 56, 57, 97, 98, 99, 100, 101, 102] : Bs).take ((r : Int) + 1).toNat).drop ((r : Nat) : Int).toNat) = [digitC r] := fun r hr => by
      rw [Int.toNat_natCast, show ((r : Int) + 1).toNat = r + 1 by omega]
      exact dg_cut r hr
    have go := r29hex_loop (n := n) hs d (i + 1) m (by omega) (by omega)
    rw [List.take_succ_eq_append_getElem hi, hexs_append, show ((i + 1 : Nat) : Int) = (i : Int) + 1 by omega] at go
    rw [L_ref29_hex_0_eq, ifd (by omega), if_pos (by omega), Int.toNat_natCast, bind_at hi, if_pos (by omega), bind_at hi, w64n, e1, e2, w64 (x := (((s[i]).toNat / 16 : Nat) : Int)) (by omega) (by omega), w64 (x := (((s[i]).toNat / 16 : Nat) : Int) + 1) (by omega) (by omega), w64 (x := (((s[i]).toNat % 16 : Nat) : Int) + 1) (by omega) (by omega), c _ (by omega), c _ (by omega), if_pos (by omega), if_pos (maxB_of (by simp; omega)), if_pos (by omega), if_pos (maxB_of (by simp; omega)), w64 (x := (i : Int) + 1) (by omega) (by omega), List.append_assoc]
    exact go
theorem r29hex_is {s : Bs} (hs : s.length ≤ 1000000000) : g_ref29_hex (s, ()) = some ((hexs s, ()), ()) := by
  show h_ref29_hex fuel _ = _
  rw [h_ref29_hex_eq]
  exact r29hex_loop (n := fuel) hs s.length 0 fuel (by omega) (fuel_ge (by omega))
def cellT (w t : Bs) : Bs := if t = [] then [] else 32 :: (w ++ 61 :: t)
theorem decT_len (n : Nat) : (decT n).length ≤ 13 := numR_le 10 13 n
theorem r29nums_is {w : Bs} {n : Int} (hw : w.length ≤ 100) (h : 0 ≤ n ∧ n ≤ 1099511627776) : g_ref29_num (w, n, ()) = some ((cellT w (if n = 0 then [] else decT n.toNat), ()), ()) := by
  rw [g_ref29_num_eq]
  by_cases h0 : n = 0
  · rw [if_pos (by simp [h0]), if_pos h0]; rfl
  · obtain ⟨v, rfl⟩ : ∃ v : Nat, n = v := ⟨n.toNat, by omega⟩
    have hd := decT_len v
    rw [if_neg (by simpa using h0), if_pos (maxB_of (by omega)), if_pos (maxB_of (by simp; omega)), r29number_is (by omega), Option.bind_some, if_pos (maxB_of (by simp; omega)), if_neg h0, Int.toNat_natCast]
    unfold cellT
    rw [if_neg (dec_ne v)]
    simp
theorem r29text_is {w s : Bs} (hw : w.length ≤ 100) (hs : s.length ≤ 1000000) : g_ref29_text (w, s, ()) = some ((cellT w (hexs s), ()), ()) := by
  rw [g_ref29_text_eq]
  by_cases h0 : s = []
  · subst h0
    rw [if_pos (by decide)]; rfl
  · have hd := hexs_len s
    rw [if_neg (by simpa using h0)]
    first
      | rw [if_pos (maxB_of (by omega)), if_pos (maxB_of (by simp; omega)), r29hex_is (by omega), Option.bind_some, if_pos (maxB_of (by simp; omega))]
    unfold cellT
    rw [if_neg (fun e => h0 ((hexs_nil s).1 e))]
    simp
end Go.VP
set_option linter.unusedVariables false
set_option linter.unusedSimpArgs false
set_option maxRecDepth 100000
namespace Go.VP
open Go Go.VI
theorem word_is (k : Int) : g_text_Word (k, ()) = some ((wordM k, ()), ()) := by
  rw [g_text_Word_eq]
  unfold wordM
  by_cases h0 : k < 1
  · rw [ifd h0, if_neg (by omega)]
  · rw [ifn h0]
    by_cases h1 : 14 < k
    · rw [ifd h1, if_neg (by omega)]
    · rw [ifn h1, g_text_words_eq, Option.bind_some, if_pos (show 0 ≤ k ∧ k < 15 by omega), if_pos (show 1 ≤ k ∧ k ≤ 14 by omega)]
      have : k = 1 ∨ k = 2 ∨ k = 3 ∨ k = 4 ∨ k = 5 ∨ k = 6 ∨ k = 7 ∨ k = 8 ∨ k = 9 ∨ k = 10 ∨ k = 11 ∨ k = 12 ∨ k = 13 ∨ k = 14 := by omega
      rcases this with rfl | rfl | rfl | rfl | rfl | rfl | rfl | rfl | rfl | rfl | rfl | rfl | rfl | rfl <;> rfl
theorem kind_eq {R : Type} {a w : Bs} {x : R} {y : R} (r : R) (h1 : w = a → x = r) (h2 : ¬ w = a → y = r) : (if (w == a) = true then x else y) = r := by
  by_cases h : w = a
  · rw [if_pos (by simpa using h)]; exact h1 h
  · rw [if_neg (by simpa using h)]; exact h2 h
def kindAt (a : Bs) (i : Nat) (l : List Bs) : Int := if l.idxOf a < l.length then ((i + l.idxOf a : Nat) : Int) else 0
theorem kindAt_cons (a w : Bs) (i : Nat) (l : List Bs) : kindAt a i (w :: l) = if w = a then (i : Int) else kindAt a (i + 1) l := by
  unfold kindAt
  by_cases h : w = a
  · subst h; simp
  · rw [List.idxOf_cons, show (w == a) = false by simpa using h, cond_false, if_neg h, List.length_cons]
    by_cases h2 : l.idxOf a < l.length
    · rw [if_pos (by omega), if_pos h2, show i + (l.idxOf a + 1) = i + 1 + l.idxOf a by omega]
    · rw [if_neg (by omega), if_neg h2]
theorem kind_step {n m : Nat} {a : Bs} {r : (S_15_string × Unit) × Unit} {i : Nat} {w : Bs} {l : List Bs} {j : Int} (hL : L_text_kind_0 n (m + 1) a r j = if (w == a) = true then some ((j, ()), ()) else L_text_kind_0 n m a r (j + 1)) (hj : j = (i : Int))
    (h : L_text_kind_0 n m a r (j + 1) = some ((kindAt a (i + 1) l, ()), ())) : L_text_kind_0 n (m + 1) a r j = some ((kindAt a i (w :: l), ()), ()) := by
  rw [hL, kindAt_cons]
  refine kind_eq _ (fun e => ?_) (fun e => ?_)
  · rw [if_pos e, hj]
  · rw [if_neg e]; exact h
theorem kind_is (a : Bs) : g_text_kind (a, ()) = some ((kindM a, ()), ()) := by
  show h_text_kind fuel _ = _
  rw [h_text_kind_eq, g_text_words_eq, Option.bind_some]
  obtain ⟨m, hm⟩ : ∃ m, fuel = m + 16 := ⟨fuel - 16, by have := fuel_ge (n := 16) (by decide); omega⟩
  have hk : kindM a = kindAt a 0 wordsK := by
    unfold kindM kindAt
    rw [show wordsK.length = 15 from rfl, Nat.zero_add]
  rw [hk]
  generalize hn : fuel = n at hm ⊢
  rw [show L_text_kind_0 n n a = L_text_kind_0 n (m + 16) a by rw [hm]]
  clear hm hn hk
  unfold wordsK
  iterate 15 refine kind_step (by rw [L_text_kind_0_eq]; rfl) rfl ?_
  rw [show kindAt a (14 + 1) [] = 0 from rfl]
  rw [L_text_kind_0_eq]
  rfl
theorem shr4 : ∀ n : Nat, n < 256 → ishr .u8 (n : Int) 4 = ((n / 16 : Nat) : Int) := by decide +kernel
theorem and15u : ∀ n : Nat, n < 256 → ibits .and .u8 (n : Int) 15 = ((n % 16 : Nat) : Int) := by decide +kernel
theorem digits_loop {n : Nat} {s : Bs} (hs : s.length ≤ 1000000000) : ∀ (d i m : Nat), i + d = s.length → d < m → L_text_digits_0 n m s (hexs (s.take i)) i = some ((hexs s, ()), ())
  | 0, i, m, h, hm => by
    obtain ⟨m, rfl⟩ : ∃ k, m = k + 1 := ⟨m - 1, by omega⟩
    rw [L_text_digits_0_eq, ifn (by omega), List.take_of_length_le (by omega)]
  | d + 1, i, m, h, hm => by
    obtain ⟨m, rfl⟩ : ∃ k, m = k + 1 := ⟨m - 1, by omega⟩
    have hi : i < s.length := by omega
    have hb : (s[i]).toNat < 256 := (s[i]).toNat_lt
    have hl : (hexs (s.take i)).length = 2 * i := by rw [hexs_len, List.length_take]; omega
    have c : ∀ r : Nat, r < 16 → ([48, 49, 50, 51, 52, 53, 54, 55, 56, 57, 97, 98, 99, 100, 101, 102] : Bs)[(r : Int).toNat]? = some (digitC r) := fun r hr => by
      rw [Int.toNat_natCast]; exact dg_at r hr
    have go := digits_loop (n := n) hs d (i + 1) m (by omega) (by omega)
    rw [List.take_succ_eq_append_getElem hi, hexs_append, show ((i + 1 : Nat) : Int) = (i : Int) + 1 by omega] at go
    rw [L_text_digits_0_eq, ifd (by omega), if_pos (by omega), Int.toNat_natCast, bind_at hi, shr4 _ hb, and15u _ hb, if_pos (by omega), c _ (by omega), Option.bind_some, if_pos (by omega), c _ (by omega), Option.bind_some, if_pos (roomB_of (by simp; omega)), w64 (x := (i : Int) + 1) (by omega) (by omega), u8of_nat, u8of_nat]
    exact go
theorem digits_is {s : Bs} (hs : s.length ≤ 1000000000) : g_text_digits (s, ()) = some ((hexs s, ()), ()) := by
  show h_text_digits fuel _ = _
  rw [h_text_digits_eq, w64 (by omega) (by omega), if_pos ⟨by omega, by unfold roomI; omega⟩]
  exact digits_loop (n := fuel) hs s.length 0 fuel (by omega) (fuel_ge (by omega))
def bytesE (s : Bs) : Bs × Bool := match hexRd s with | some t => (t, true) | none => ([], false)
theorem oddHex : ∀ (k : Nat) (s : Bs), s.length = 2 * k + 1 → hexRd s = none
  | 0, s, h => by
    match s, h with
    | [a], _ => rfl
  | k + 1, s, h => by
    match s, h with
    | a :: b :: r, h =>
      rw [hexRd, oddHex k r (by simp at h; omega)]
      split <;> rfl
theorem nib_or : ∀ x : Nat, x < 16 → ∀ y : Nat, y < 16 → u8of (IntKind.wrap .u8 (ibits .or .i64 (ishl .i64 (x : Nat) 4) (y : Nat))) = UInt8.ofNat (x * 16 + y) := by decide +kernel
theorem bytes_loop29 {n h : Nat} {s : Bs} (hs : s.length = 2 * h) (hh : h ≤ 1000000) : ∀ (d i m : Nat) (done : Bs), i + d = h → d < m → done.length = i →
    L_text_bytes_0 n m s (done ++ List.replicate d 0) (h : Int) i = some (((match hexRd (s.drop (2 * i)) with | some t => (done ++ t, true) | none => ([], false)).1, (match hexRd (s.drop (2 * i)) with | some t => (done ++ t, true) | none => (([] : Bs), false)).2, ()), ())
  | 0, i, m, done, he, hm, hd => by
    obtain ⟨m, rfl⟩ : ∃ k, m = k + 1 := ⟨m - 1, by omega⟩
    rw [L_text_bytes_0_eq, ifn (by omega), List.drop_of_length_le (by omega)]
    simp [hexRd]
  | d + 1, i, m, done, he, hm, hd => by
    obtain ⟨m, rfl⟩ : ∃ k, m = k + 1 := ⟨m - 1, by omega⟩
    have h0 : 2 * i < s.length := by omega
    have h1 : 2 * i + 1 < s.length := by omega
    have e0 : (2 * (i : Int)).toNat = 2 * i := by omega
    have e1 : (2 * (i : Int) + 1).toNat = 2 * i + 1 := by omega
    have hdr : s.drop (2 * i) = s[2 * i] :: s[2 * i + 1] :: s.drop (2 * (i + 1)) := by
      rw [List.drop_eq_getElem_cons h0, List.drop_eq_getElem_cons h1, show 2 * (i + 1) = 2 * i + 1 + 1 by omega]
    have ib : ∀ c : UInt8, g_strings_IndexByte (([48, 49, 50, 51, 52, 53, 54, 55, 56, 57, 97, 98, 99, 100, 101, 102] : Bs), (c.toNat : Int), ()) = some (((if ix c < 16 then ((ix c : Nat) : Int) else -1), ()), ()) := fun c => by
      show x_strings_IndexByte _ = _
      unfold x_strings_IndexByte
      dsimp only
      rw [if_pos (by decide), Int.toNat_natCast, show (c.toNat.toUInt8) = c by simp]
      have := ix_lib c
      rw [← this]; rfl
    rw [L_text_bytes_0_eq, ifd (by omega), w64 (x := 2 * (i : Int)) (by omega) (by omega), if_pos (by omega), e0, bind_at h0, ib, Option.bind_some, w64 (x := 2 * (i : Int) + 1) (by omega) (by omega), if_pos (by omega), e1, bind_at h1, ib, Option.bind_some, hdr, hexRd]
    by_cases a0 : ix s[2 * i] < 16
    · by_cases b0 : ix s[2 * i + 1] < 16
      · dsimp only
        rw [if_pos a0, if_pos b0, ifn (by omega), ifn (by omega), if_pos (by simp; omega), Int.toNat_natCast, if_pos (by simp; omega), nib_or _ a0 _ b0, w64 (x := (i : Int) + 1) (by omega) (by omega), if_pos ⟨a0, b0⟩]
        have hset : (done ++ List.replicate (d + 1) 0).set i (UInt8.ofNat (ix s[2 * i] * 16 + ix s[2 * i + 1])) = (done ++ [UInt8.ofNat (ix s[2 * i] * 16 + ix s[2 * i + 1])]) ++ List.replicate d 0 := by
          rw [List.set_append_right _ _ (by omega), hd, Nat.sub_self, List.replicate_succ, List.set_cons_zero]; simp
        have go := bytes_loop29 (n := n) hs hh d (i + 1) m (done ++ [UInt8.ofNat (ix s[2 * i] * 16 + ix s[2 * i + 1])]) (by omega) (by omega) (by simp [hd])
        rw [show ((i + 1 : Nat) : Int) = (i : Int) + 1 by omega] at go
        rw [hset, go]
        cases hexRd (s.drop (2 * (i + 1))) with
        | none => rfl
        | some t => simp
      · dsimp only
        rw [if_pos a0, if_neg b0, ifn (by omega), ifd (by omega), if_neg (fun e => b0 e.2)]
    · dsimp only
      rw [if_neg a0, ifd (by omega), if_neg (fun e => a0 e.1)]
theorem bytesT_is {s : Bs} (hs : s.length ≤ 1000000) : g_text_bytes (s, ()) = some (((bytesE s).1, (bytesE s).2, ()), ()) := by
  show h_text_bytes fuel _ = _
  rw [h_text_bytes_eq, Int.tmod_eq_emod_of_nonneg (by omega), Int.tdiv_eq_ediv_of_nonneg (by omega)]
  by_cases ho : s.length % 2 = 0
  · obtain ⟨h, hh⟩ : ∃ h, s.length = 2 * h := ⟨s.length / 2, by omega⟩
    rw [if_neg (by simp; omega), w64 (by omega) (by omega), if_pos ⟨by omega, by unfold roomI; omega⟩, show (((s.length : Nat) : Int) / 2) = ((h : Nat) : Int) by omega, Int.toNat_natCast, List.length_replicate]
    have := bytes_loop29 (n := fuel) hh (by omega) h 0 fuel [] (by omega) (fuel_ge (by omega)) rfl
    rw [List.nil_append, Nat.mul_zero, List.drop_zero] at this
    refine this.trans ?_
    unfold bytesE
    cases hexRd s <;> rfl
  · rw [if_pos (by simp; omega)]
    unfold bytesE
    rw [oddHex (s.length / 2) s (by omega)]
def destE (s : Bs) : S_api_Dest × Bool := (⟨(bytesE (cutC 58 s).1).1, (numE (cutC 58 s).2.1).1⟩, (cutC 58 s).2.2 && (bytesE (cutC 58 s).1).2 && (numE (cutC 58 s).2.1).2)
def subE (s : Bs) : S_api_Sub × Bool := (⟨(numE (cutC 58 s).1).1, (bytesE (cutC 58 s).2.1).1⟩, (cutC 58 s).2.2 && (numE (cutC 58 s).1).2 && (bytesE (cutC 58 s).2.1).2)
theorem cutC_len (c : UInt8) (s : Bs) : (cutC c s).1.length ≤ s.length ∧ (cutC c s).2.1.length ≤ s.length := by
  have h := (cutC_inv c s).2.1
  have h2 := (cutC_inv c s).2.2
  have : s.length = (cutC c s).1.length + (if (cutC c s).2.2 = true then c :: (cutC c s).2.1 else []).length := by rw [← List.length_append, ← h]
  cases hb : (cutC c s).2.2 with
  | true => rw [hb, if_pos rfl] at this; simp at this; omega
  | false => rw [h2 hb]; simp; omega
theorem cutT_is {s : Bs} (c : UInt8) (hs : s.length ≤ 1000000) : g_strings_Cut (s, [c], ()) = some (((cutC c s).1, (cutC c s).2.1, (cutC c s).2.2, ()), ()) := by
  show x_strings_Cut _ = _
  unfold x_strings_Cut
  dsimp only
  rw [if_pos hs]
theorem numT_is {s : Bs} (hs : s.length ≤ 1000000) : g_text_number (s, ()) = some (((numE s).1, (numE s).2, ()), ()) := by
  show x_text_number _ = _
  unfold x_text_number
  dsimp only
  rw [if_pos hs]
theorem destT_is {s : Bs} (hs : s.length ≤ 1000000) : g_text_dest (s, ()) = some (((destE s).1, (destE s).2, ()), ()) := by
  have h := cutC_len 58 s
  rw [g_text_dest_eq, cutT_is 58 hs, Option.bind_some, bytesT_is (by dsimp only; omega), Option.bind_some, numT_is (by dsimp only; omega), Option.bind_some]
  unfold destE
  cases (cutC 58 s).2.2 <;> cases (bytesE (cutC 58 s).1).2 <;> rfl
theorem subT_is {s : Bs} (hs : s.length ≤ 1000000) : g_text_sub (s, ()) = some (((subE s).1, (subE s).2, ()), ()) := by
  have h := cutC_len 58 s
  rw [g_text_sub_eq, cutT_is 58 hs, Option.bind_some, numT_is (by dsimp only; omega), Option.bind_some, bytesT_is (by dsimp only; omega), Option.bind_some]
  unfold subE
  cases (cutC 58 s).2.2 <;> cases (numE (cutC 58 s).1).2 <;> rfl
theorem destE_rd (s : Bs) : destRd s = if (destE s).2 = true then some (dTo (destE s).1) else none := by
  unfold destRd destE bytesE numE dTo
  cases (cutC 58 s).2.2 with
  | false => rfl
  | true =>
    cases hexRd (cutC 58 s).1 with
    | none => rfl
    | some a =>
      cases numRd (cutC 58 s).2.1 with
      | none => rfl
      | some n => simp
theorem subE_rd (s : Bs) : subRd s = if (subE s).2 = true then some (sTo (subE s).1) else none := by
  unfold subRd subE bytesE numE sTo
  cases (cutC 58 s).2.2 with
  | false => rfl
  | true =>
    cases numRd (cutC 58 s).1 with
    | none => rfl
    | some n =>
      cases hexRd (cutC 58 s).2.1 with
      | none => rfl
      | some a => simp
theorem numE_rng (s : Bs) : rng (numE s).1 := by
  unfold numE
  cases h : numRd s with
  | none => exact ⟨by decide, by decide⟩
  | some v => have := (dec_numRd h).2; exact ⟨by show (0 : Int) ≤ (v : Int); omega, by show (v : Int) ≤ _; omega⟩
theorem hexRd_len : ∀ (k : Nat) (s t : Bs), s.length ≤ k → hexRd s = some t → t.length ≤ k
  | 0, s, t, h, e => by
    match s, h with
    | [], _ => rw [hexRd] at e; injection e with e; subst e; simp
  | k + 1, s, t, h, e => by
    match s with
    | [] => rw [hexRd] at e; injection e with e; subst e; simp
    | [a] => cases e
    | a :: b :: r =>
      rw [hexRd] at e
      split at e
      · cases hr : hexRd r with
        | none => rw [hr] at e; cases e
        | some u =>
          rw [hr] at e; injection e with e; subst e
          have := hexRd_len k r u (by simp at h; omega) hr
          simp; omega
      · cases e
theorem bytesE_len (s : Bs) : (bytesE s).1.length ≤ s.length := by
  unfold bytesE
  cases h : hexRd s with
  | none => simp
  | some t => exact hexRd_len _ s t (Nat.le_refl _) h
end Go.VP
set_option linter.unusedVariables false
set_option linter.unusedSimpArgs false
set_option maxRecDepth 100000
namespace Go.VP
open Go Go.VI
abbrev Sub := S_api_Sub
end Go.VP
set_option linter.unusedVariables false
set_option linter.unusedSimpArgs false
set_option maxRecDepth 100000
namespace Go.VP
open Go Go.VI
def FewS (l : List Sub) : Prop := l.length ≤ 1000000000 ∧ ∀ y ∈ l, y.data.length ≤ 300
theorem FewS.tail {y : Sub} {l : List Sub} (h : FewS (y :: l)) : FewS l := ⟨by have := h.1; simp at this; omega, fun z hz => h.2 z (List.mem_cons_of_mem _ hz)⟩
theorem FewS.drop {l : List Sub} (h : FewS l) (i : Nat) : FewS (l.drop i) := ⟨by have := h.1; simp; omega, fun y hy => h.2 y (List.mem_of_mem_drop hy)⟩
theorem FewS.app {a b : List Sub} (h : ∀ y ∈ a, y.data.length ≤ 300) (h2 : ∀ y ∈ b, y.data.length ≤ 300) (h3 : a.length + b.length ≤ 1000000000) : FewS (a ++ b) :=
  ⟨by simpa using h3, fun y hy => (List.mem_append.1 hy).elim (h y) (h2 y)⟩
end Go.VP
set_option linter.unusedVariables false
set_option linter.unusedSimpArgs false
set_option maxRecDepth 100000
namespace Go.VP
open Go Go.VI
abbrev Msg := S_api_Msg
abbrev Dest := S_api_Dest
theorem ne_step {α R : Type} [BEq α] [LawfulBEq α] {x y : α} {f t r : R} (hne : x ≠ y → f = r) (heq : x = y → t = r) : (if (x != y) = true then f else t) = r := by
  by_cases h : x = y
  · rw [if_neg (by simp [h])]; exact heq h
  · rw [if_pos (by simp [h])]; exact hne h
theorem nq_step {α R : Type} [BEq α] [LawfulBEq α] {x y : α} {f t r : R} (hne : x ≠ y → f = r) (heq : x = y → t = r) : (if (!(x == y)) = true then f else t) = r := ne_step hne heq
open Classical in
noncomputable def eqB {α : Type} (a b : α) : Bool := decide (a = b)
theorem eqB_true {α : Type} {a b : α} : eqB a b = true ↔ a = b := by simp [eqB]
theorem eqB_refl {α : Type} (a : α) : eqB a a = true := eqB_true.2 rfl
theorem eqB_false {α : Type} {a b : α} (h : a ≠ b) : eqB a b = false := by simp [eqB, h]
theorem dests_loop {a b : List Dest} {n : Nat} (hl : a.length = b.length) (h1 : a.length ≤ 1000000000) : ∀ (d m i : Nat), i + d = a.length → d < m → L_ref07_dests_0 n m a b i = some ((eqB (a.drop i) (b.drop i), ()), ()) := by
  intro d
  induction d with
  | zero =>
    intro m i hd hm
    obtain ⟨m, rfl⟩ : ∃ k, m = k + 1 := ⟨m - 1, by omega⟩
    rw [L_ref07_dests_0_eq, ifn (by omega), List.drop_eq_nil_of_le (by omega), List.drop_eq_nil_of_le (by omega), eqB_refl]
  | succ d ih =>
    intro m i hd hm
    obtain ⟨m, rfl⟩ : ∃ k, m = k + 1 := ⟨m - 1, by omega⟩
    have ha : i < a.length := by omega
    have hb : i < b.length := by omega
    have := ih m (i + 1) (by omega) (by omega)
    rw [show ((i + 1 : Nat) : Int) = (i : Int) + 1 by omega] at this
    rw [L_ref07_dests_0_eq, ifd (by omega), if_pos (by omega), Int.toNat_natCast, bind_at ha, if_pos (by omega), bind_at hb, w64 (by omega) (by omega), this, List.drop_eq_getElem_cons ha, List.drop_eq_getElem_cons hb]
    generalize a[i] = x
    generalize b[i] = y
    obtain ⟨x1, x2⟩ := x
    obtain ⟨y1, y2⟩ := y
    dsimp only
    by_cases h : x1 = y1 ∧ x2 = y2
    · obtain ⟨rfl, rfl⟩ := h
      rw [if_neg (by simp)]
      simp [eqB]
    · have hx : ¬ ((⟨x1, x2⟩ : Dest) = ⟨y1, y2⟩) := by simpa using h
      have hb : ((x1 == y1) && (x2 == y2)) = false := by rw [Bool.eq_false_iff]; simpa using h
      rw [hb, ifnf, eqB_false]
      intro e
      injection e with e _
      exact hx e
theorem dests_is {a b : List Dest} (h1 : a.length ≤ 1000000000) : g_ref07_dests (a, b, ()) = some ((eqB a b, ()), ()) := by
  show h_ref07_dests fuel _ = _
  rw [h_ref07_dests_eq]
  refine ne_step (fun h => ?_) (fun h => ?_)
  · rw [eqB_false]; intro e; subst e; exact h rfl
  · exact dests_loop (n := fuel) (by omega) h1 a.length fuel 0 (by omega) (fuel_ge (by omega))
theorem subs2_loop {a b : List Sub} {n : Nat} (hl : a.length = b.length) (h1 : a.length ≤ 1000000000) : ∀ (d m i : Nat), i + d = a.length → d < m → L_ref07_subs_0 n m a b i = some ((eqB (a.drop i) (b.drop i), ()), ()) := by
  intro d
  induction d with
  | zero =>
    intro m i hd hm
    obtain ⟨m, rfl⟩ : ∃ k, m = k + 1 := ⟨m - 1, by omega⟩
    rw [L_ref07_subs_0_eq, ifn (by omega), List.drop_eq_nil_of_le (by omega), List.drop_eq_nil_of_le (by omega), eqB_refl]
  | succ d ih =>
    intro m i hd hm
    obtain ⟨m, rfl⟩ : ∃ k, m = k + 1 := ⟨m - 1, by omega⟩
    have ha : i < a.length := by omega
    have hb : i < b.length := by omega
    have := ih m (i + 1) (by omega) (by omega)
    rw [show ((i + 1 : Nat) : Int) = (i : Int) + 1 by omega] at this
    rw [L_ref07_subs_0_eq, ifd (by omega), if_pos (by omega), Int.toNat_natCast, bind_at ha, if_pos (by omega), bind_at hb, w64 (by omega) (by omega), this, List.drop_eq_getElem_cons ha, List.drop_eq_getElem_cons hb]
    generalize a[i] = x
    generalize b[i] = y
    obtain ⟨x1, x2⟩ := x
    obtain ⟨y1, y2⟩ := y
    dsimp only
    by_cases h : x1 = y1 ∧ x2 = y2
    · obtain ⟨rfl, rfl⟩ := h
      rw [if_neg (by simp)]
      simp [eqB]
    · have hx : ¬ ((⟨x1, x2⟩ : Sub) = ⟨y1, y2⟩) := by simpa using h
      have hb : ((x1 == y1) && (x2 == y2)) = false := by rw [Bool.eq_false_iff]; simpa using h
      rw [hb, ifnf, eqB_false]
      intro e
      injection e with e _
      exact hx e
theorem subs2_is {a b : List Sub} (h1 : a.length ≤ 1000000000) : g_ref07_subs (a, b, ()) = some ((eqB a b, ()), ()) := by
  show h_ref07_subs fuel _ = _
  rw [h_ref07_subs_eq]
  refine ne_step (fun h => ?_) (fun h => ?_)
  · rw [eqB_false]; intro e; subst e; exact h rfl
  · exact subs2_loop (n := fuel) (by omega) h1 a.length fuel 0 (by omega) (fuel_ge (by omega))
theorem same_is {a b : Msg} (h1 : a.list.length ≤ 1000000000) (h2 : a.subs.length ≤ 1000000000) : g_ref07_Same (a, b, ()) = some ((eqB a b, ()), ()) := by
  have hf : a ≠ b → (some ((false, ()), ()) : Option ((Bool × Unit) × Unit)) = some ((eqB a b, ()), ()) := fun h => by rw [eqB_false h]
  rw [g_ref07_Same_eq, dests_is h1, Option.bind_some, subs2_is h2, Option.bind_some]
  repeat (first | refine ne_step (fun h => hf (fun e => h (by rw [e]))) (fun h => ?_) | refine nq_step (fun h => hf (fun e => h (by rw [e]))) (fun h => ?_))
  dsimp only
  by_cases hl : a.list = b.list
  · rw [hl, eqB_refl, ift]
    by_cases hs : a.subs = b.subs
    · have : a = b := by
        cases a; cases b
        simp only at *
        simp [*]
      rw [hs, eqB_refl, this, eqB_refl]
    · rw [eqB_false hs, eqB_false]; intro e; exact hs (by rw [e])
  · rw [eqB_false hl, iff_]; exact hf (fun e => hl (by rw [e]))
structure Few (m : Msg) : Prop where
  list : m.list.length ≤ 300
  subs : m.subs.length ≤ 60
  ap : m.auth.length + m.prefix_.length ≤ 200
  ni : m.next.length + m.id.length ≤ 200
  ao : m.addr.length + m.orig.length ≤ 200
  data : m.data.length ≤ 300
  ds : ∀ d ∈ m.list, d.addr.length ≤ 50
  ss : ∀ s ∈ m.subs, s.data.length ≤ 300
structure Lite (m : Msg) : Prop where
  list : m.list.length ≤ 1000
  subs : m.subs.length ≤ 1000
  auth : m.auth.length ≤ 400
  pre : m.prefix_.length ≤ 400
  next : m.next.length ≤ 400
  id : m.id.length ≤ 400
  addr : m.addr.length ≤ 400
  orig : m.orig.length ≤ 400
  data : m.data.length ≤ 400
  ds : ∀ d ∈ m.list, d.addr.length ≤ 50
  ss : ∀ s ∈ m.subs, s.data.length ≤ 300
def bareOf (m : Msg) : Option Msg :=
  if m.kind = 1 then some ⟨m.kind, m.cmd, m.ver, m.auth, m.family, 0, m.prefix_, m.plen, m.tag, m.next, m.metric, [], 0, 0, 0, 0, 0, 0, 0, [], [], [], 0, [], []⟩
  else if m.kind = 2 then some ⟨m.kind, m.cmd, 0, [], 0, 0, m.prefix_, m.plen, m.tag, m.next, m.metric, [], 0, 0, 0, 0, 0, 0, 0, [], [], [], 0, [], []⟩
  else if m.kind = 3 then some ⟨m.kind, 0, 0, [], 0, 0, [], 0, 0, [], 0, [], m.seq, m.seq2, 0, m.flags, m.hops, m.nonce, 0, m.addr, m.orig, [], 0, [], m.subs⟩
  else if m.kind = 4 then some ⟨m.kind, 0, 0, [], 0, 0, [], m.plen, 0, [], 0, [], m.seq, 0, m.interval, m.flags, m.hops, 0, 0, m.addr, m.orig, [], 0, [], m.subs⟩
  else if m.kind = 5 then some ⟨m.kind, 0, 0, [], 0, 0, [], 0, 0, [], 0, [], 0, 0, 0, m.flags, 0, 0, 0, [], [], m.list, 0, [], m.subs⟩
  else if m.kind = 6 then some ⟨m.kind, 0, 0, [], 0, 0, [], 0, 0, [], 0, [], 0, 0, 0, 0, 0, 0, 0, [], [], [], 0, [], m.subs⟩
  else if m.kind = 7 then some ⟨m.kind, 0, 0, [], 0, 0, [], 0, 0, [], 0, [], 0, 0, m.interval, 0, 0, m.nonce, 0, [], [], [], 0, [], m.subs⟩
  else if m.kind = 8 then some ⟨m.kind, 0, 0, [], 0, 0, [], 0, 0, [], 0, [], 0, 0, 0, 0, 0, m.nonce, 0, [], [], [], 0, [], m.subs⟩
  else if m.kind = 9 then some ⟨m.kind, 0, 0, [], 0, 0, [], 0, 0, [], 0, [], m.seq, 0, m.interval, m.flags, 0, 0, 0, [], [], [], 0, [], m.subs⟩
  else if m.kind = 10 then some ⟨m.kind, 0, 0, [], 0, m.ae, [], 0, 0, [], 0, [], 0, 0, m.interval, 0, 0, 0, m.cost, m.addr, [], [], 0, [], m.subs⟩
  else if m.kind = 11 then some ⟨m.kind, 0, 0, [], 0, m.ae, m.prefix_, m.plen, 0, m.next, m.metric, m.id, m.seq, 0, m.interval, 0, 0, 0, 0, [], [], [], 0, [], m.subs⟩
  else if m.kind = 12 then some ⟨m.kind, 0, 0, [], 0, m.ae, m.prefix_, m.plen, 0, [], 0, [], 0, 0, 0, 0, 0, 0, 0, [], [], [], 0, [], m.subs⟩
  else if m.kind = 13 then some ⟨m.kind, 0, 0, [], 0, m.ae, m.prefix_, m.plen, 0, [], 0, m.id, m.seq, 0, 0, 0, m.hops, 0, 0, [], [], [], 0, [], m.subs⟩
  else if m.kind = 14 then some ⟨m.kind, 0, 0, [], 0, 0, [], 0, 0, [], 0, [], 0, 0, 0, 0, 0, 0, 0, [], [], [], m.type_, m.data, []⟩
  else none
noncomputable def bareB (m : Msg) : Bool := match bareOf m with | some x => eqB x m | none => false
theorem bq_step {R : Type} {x y : Int} {f t r : R} (heq : x = y → t = r) (hne : x ≠ y → f = r) : (if (x == y) = true then t else f) = r := by
  by_cases h : x = y
  · rw [if_pos (by simp [h])]; exact heq h
  · rw [if_neg (by simp [h])]; exact hne h
theorem rbare_is {m : Msg} (h1 : m.list.length ≤ 1000000000) (h2 : m.subs.length ≤ 1000000000) : g_ref07_Bare (m, ()) = some ((bareB m, ()), ()) := by
  have go : ∀ x : Msg, x.list.length ≤ 1000000000 → x.subs.length ≤ 1000000000 → bareOf m = some x → ((g_ref07_Same (x, m, ())).bind fun r1 => some ((r1.1.1, ()), ())) = some ((bareB m, ()), ()) := by
    intro x h1 h2 hx
    rw [same_is h1 h2, bareB, hx]; rfl
  rw [g_ref07_Bare_eq]
  repeat refine bq_step (fun h => go _ (by first | exact h1 | (show 0 ≤ _; omega)) (by first | exact h2 | (show 0 ≤ _; omega)) (by simp [bareOf, *])) (fun h => ?_)
  simp [bareB, bareOf, *]
theorem band3 {A B C S : Bool} (h : S = (A && B && C)) : (if A = true then (if B = true then (some ((C, ()), ()) : Option ((Bool × Unit) × Unit)) else some ((false, ()), ())) else some ((false, ()), ())) = some ((S, ()), ()) := by
  subst h; cases A <;> cases B <;> rfl
theorem band2 {A B S : Bool} (h : S = (A && B)) : (if A = true then (if B = true then (some ((true, ()), ()) : Option ((Bool × Unit) × Unit)) else some ((false, ()), ())) else some ((false, ()), ())) = some ((S, ()), ()) := by
  subst h; cases A <;> cases B <;> rfl
theorem band1 {A S : Bool} (h : S = A) : (if A = true then (some ((true, ()), ()) : Option ((Bool × Unit) × Unit)) else some ((false, ()), ())) = some ((S, ()), ()) := by
  subst h; cases S <;> rfl
theorem eqB_true' {α : Type} {a b : α} : eqB a b = true ↔ b = a := by rw [eqB_true]; exact eq_comm
theorem len_nil {α : Type} (l : List α) : ((l.length : Int) = 0) ↔ l = [] := by cases l <;> simp; omega
theorem bare_is {m : Msg} : g_msg_Bare (m, ()) = some ((bareB m, ()), ()) := by
  obtain ⟨kind, cmd, ver, auth, family, ae, pre, plen, tag, next, metric, id, seq, seq2, interval, flags, hops, nonce, cost, addr, orig, list, typ, data, subs⟩ := m
  rw [g_msg_Bare_eq, g_msg_strip_eq, Option.bind_some]
  dsimp only
  repeat' first | (exfalso; omega) | refine bq_step (fun h => ?_) (fun h => ?_)
  all_goals first | refine band3 ?_ | refine band2 ?_ | refine band1 ?_ | skip
  all_goals (try (subst kind))
  all_goals rw [bareB, bareOf]
  all_goals (try simp only [*, if_true, if_false])
  all_goals first | rfl | skip
  all_goals rw [Bool.eq_iff_iff]
  all_goals simp only [eqB_true', S_api_Msg.mk.injEq, Bool.and_eq_true, beq_iff_eq, len_nil]
  all_goals (simp only [true_and, and_true, and_self]; first | done | (constructor <;> (intro h; simp only [h, and_self])))
end Go.VP
set_option linter.unusedVariables false
set_option linter.unusedSimpArgs false
set_option maxRecDepth 100000
namespace Go.VP
open Go Go.VI
theorem joinC_snoc (c : UInt8) (p : Bs) : ∀ (l : List Bs), joinC c (l ++ [p]) = if l = [] then p else joinC c l ++ c :: p
  | [] => rfl
  | [q] => rfl
  | q :: r :: l => by
    have := joinC_snoc c p (r :: l)
    rw [if_neg (by simp)] at this
    rw [List.cons_append, List.cons_append, joinC, ← List.cons_append, this, if_neg (by simp), joinC]
    simp
theorem destT_len {x : Bs × Nat} (h : x.1.length ≤ 100000) : (destT x).length ≤ 200100 := by
  have := hexs_len x.1
  have := decT_len x.2
  unfold destT
  rw [List.length_append, List.length_cons]; omega
theorem joinC_le (c : UInt8) (k : Nat) : ∀ (l : List Bs), (∀ p ∈ l, p.length ≤ k) → (joinC c l).length ≤ (k + 1) * l.length
  | [], _ => by simp [joinC]
  | [p], h => by rw [joinC]; have := h p (by simp); simp; omega
  | p :: q :: r, h => by
    have h1 := h p (by simp)
    have h2 := joinC_le c k (q :: r) (fun x hx => h x (by simp at hx ⊢; exact .inr hx))
    rw [joinC, List.length_append, List.length_cons, List.length_cons (a := p), Nat.mul_add]
    omega
theorem r29list_loop {n : Nat} {l : List S_api_Dest} (hl : l.length ≤ 1000) (ha : ∀ d ∈ l, d.addr.length ≤ 100000 ∧ rng d.seq) : ∀ (d i m : Nat), i + d = l.length → d < m → L_ref29_list_0 n m l (listT ((l.take i).map dTo)) i = some ((cellT [108, 105, 115, 116] (listT (l.map dTo)), ()), ())
  | 0, i, m, h, hm => by
    obtain ⟨m, rfl⟩ : ∃ k, m = k + 1 := ⟨m - 1, by omega⟩
    have hj : (listT (l.map dTo)).length ≤ 200101 * l.length := by
      have := joinC_le 44 200100 ((l.map dTo).map destT) (fun p hp => by
        obtain ⟨x, hx, rfl⟩ := List.mem_map.1 hp
        obtain ⟨y, hy, rfl⟩ := List.mem_map.1 hx
        exact destT_len (ha y hy).1)
      simpa [listT] using this
    rw [L_ref29_list_0_eq, ifn (by omega), List.take_of_length_le (by omega)]
    unfold cellT
    by_cases h0 : listT (l.map dTo) = []
    · rw [if_pos (by simp [h0]), if_pos h0]
    · rw [if_neg (by simpa using h0), if_pos (maxB_of (by omega)), if_neg h0]; rfl
  | d + 1, i, m, h, hm => by
    obtain ⟨m, rfl⟩ : ∃ k, m = k + 1 := ⟨m - 1, by omega⟩
    have hi : i < l.length := by omega
    have hy := ha l[i] (List.getElem_mem hi)
    have hr := rng_toNat hy.2
    have hj : (listT ((l.take i).map dTo)).length ≤ 200101 * 1000 := by
      have := joinC_le 44 200100 (((l.take i).map dTo).map destT) (fun p hp => by
        obtain ⟨x, hx, rfl⟩ := List.mem_map.1 hp
        obtain ⟨y, hy, rfl⟩ := List.mem_map.1 hx
        exact destT_len (ha y (List.mem_of_mem_take hy)).1)
      have h2 : (listT ((l.take i).map dTo)).length ≤ 200101 * i := by simpa [listT, Nat.min_eq_left (Nat.le_of_lt hi)] using this
      omega
    have go := r29list_loop (n := n) hl ha d (i + 1) m (by omega) (by omega)
    have e0 : listT ((l.take (i + 1)).map dTo) = if i = 0 then destT (dTo l[i]) else listT ((l.take i).map dTo) ++ 44 :: destT (dTo l[i]) := by
      rw [List.take_succ_eq_append_getElem hi]
      unfold listT
      rw [List.map_append, List.map_append, List.map_cons, List.map_nil, List.map_cons, List.map_nil, joinC_snoc]
      by_cases hz : i = 0
      · subst hz
        rw [if_pos rfl, if_pos (by simp)]
      · rw [if_neg hz, if_neg (by
          intro e
          have := congrArg List.length e
          simp only [List.length_map, List.length_take, List.length_nil] at this
          omega)]
    have e1 : destT (dTo l[i]) = hexs l[i].addr ++ 58 :: decT l[i].seq.toNat := rfl
    have hx := hexs_len l[i].addr
    have hd := decT_len l[i].seq.toNat
    have hnum := r29number_is hr.2
    rw [hr.1] at hnum
    rw [show ((i + 1 : Nat) : Int) = (i : Int) + 1 by omega, e0, e1] at go
    rw [L_ref29_list_0_eq, ifd (by omega)]
    by_cases hz : i = 0
    · rw [if_pos hz] at go
      subst hz
      rw [ifn (by omega), if_pos (by omega), Int.toNat_natCast, bind_at hi, r29hex_is (by omega), Option.bind_some]
      dsimp only
      have e9 : listT ((l.take 0).map dTo) = [] := rfl
      rw [e9, if_pos (maxB_of (by simp only [List.length_append, List.length_cons, List.length_nil]; omega)), if_pos (maxB_of (by simp only [List.length_append, List.length_cons, List.length_nil]; omega)), if_pos (by omega), bind_at hi, hnum, Option.bind_some]
      dsimp only
      rw [if_pos (maxB_of (by simp only [List.length_append, List.length_cons, List.length_nil]; omega)), w64 (x := ((0 : Nat) : Int) + 1) (by omega) (by omega)]
      rw [← go]; simp
    · rw [if_neg hz] at go
      rw [ifd (by omega), if_pos (maxB_of (by omega)), if_pos (by omega), Int.toNat_natCast, bind_at hi, r29hex_is (by omega), Option.bind_some]
      dsimp only
      rw [if_pos (maxB_of (by simp only [List.length_append, List.length_cons, List.length_nil]; omega)), if_pos (maxB_of (by simp only [List.length_append, List.length_cons, List.length_nil]; omega)), if_pos (by omega), bind_at hi, hnum, Option.bind_some]
      dsimp only
      rw [if_pos (maxB_of (by simp only [List.length_append, List.length_cons, List.length_nil]; omega)), w64 (x := (i : Int) + 1) (by omega) (by omega)]
      rw [← go]; simp
theorem r29list_is {l : List S_api_Dest} (hl : l.length ≤ 1000) (ha : ∀ d ∈ l, d.addr.length ≤ 100000 ∧ rng d.seq) : g_ref29_list (l, ()) = some ((cellT [108, 105, 115, 116] (listT (l.map dTo)), ()), ()) := by
  show h_ref29_list fuel _ = _
  rw [h_ref29_list_eq]
  exact r29list_loop (n := fuel) hl ha l.length 0 fuel (by omega) (fuel_ge (by omega))
end Go.VP
set_option linter.unusedVariables false
set_option linter.unusedSimpArgs false
set_option maxRecDepth 100000
namespace Go.VP
open Go Go.VI
theorem subT_len {x : Nat × Bs} (h : x.2.length ≤ 100000) : (subT x).length ≤ 200100 := by
  have := hexs_len x.2
  have := decT_len x.1
  unfold subT
  rw [List.length_append, List.length_cons]; omega
theorem r29subs_loop {n : Nat} {l : List S_api_Sub} (hl : l.length ≤ 1000) (ha : ∀ d ∈ l, d.data.length ≤ 100000 ∧ rng d.type_) : ∀ (d i m : Nat), i + d = l.length → d < m → L_ref29_subs_0 n m l (subsT ((l.take i).map sTo)) i = some ((cellT [115, 117, 98, 115] (subsT (l.map sTo)), ()), ())
  | 0, i, m, h, hm => by
    obtain ⟨m, rfl⟩ : ∃ k, m = k + 1 := ⟨m - 1, by omega⟩
    have hj : (subsT (l.map sTo)).length ≤ 200101 * l.length := by
      have := joinC_le 44 200100 ((l.map sTo).map subT) (fun p hp => by
        obtain ⟨x, hx, rfl⟩ := List.mem_map.1 hp
        obtain ⟨y, hy, rfl⟩ := List.mem_map.1 hx
        exact subT_len (ha y hy).1)
      simpa [subsT] using this
    rw [L_ref29_subs_0_eq, ifn (by omega), List.take_of_length_le (by omega)]
    unfold cellT
    by_cases h0 : subsT (l.map sTo) = []
    · rw [if_pos (by simp [h0]), if_pos h0]
    · rw [if_neg (by simpa using h0), if_pos (maxB_of (by omega)), if_neg h0]; rfl
  | d + 1, i, m, h, hm => by
    obtain ⟨m, rfl⟩ : ∃ k, m = k + 1 := ⟨m - 1, by omega⟩
    have hi : i < l.length := by omega
    have hy := ha l[i] (List.getElem_mem hi)
    have hr := rng_toNat hy.2
    have hj : (subsT ((l.take i).map sTo)).length ≤ 200101 * 1000 := by
      have := joinC_le 44 200100 (((l.take i).map sTo).map subT) (fun p hp => by
        obtain ⟨x, hx, rfl⟩ := List.mem_map.1 hp
        obtain ⟨y, hy, rfl⟩ := List.mem_map.1 hx
        exact subT_len (ha y (List.mem_of_mem_take hy)).1)
      have h2 : (subsT ((l.take i).map sTo)).length ≤ 200101 * i := by simpa [subsT, Nat.min_eq_left (Nat.le_of_lt hi)] using this
      omega
    have go := r29subs_loop (n := n) hl ha d (i + 1) m (by omega) (by omega)
    have e0 : subsT ((l.take (i + 1)).map sTo) = if i = 0 then subT (sTo l[i]) else subsT ((l.take i).map sTo) ++ 44 :: subT (sTo l[i]) := by
      rw [List.take_succ_eq_append_getElem hi]
      unfold subsT
      rw [List.map_append, List.map_append, List.map_cons, List.map_nil, List.map_cons, List.map_nil, joinC_snoc]
      by_cases hz : i = 0
      · subst hz
        rw [if_pos rfl, if_pos (by simp)]
      · rw [if_neg hz, if_neg (by
          intro e
          have := congrArg List.length e
          simp only [List.length_map, List.length_take, List.length_nil] at this
          omega)]
    have e1 : subT (sTo l[i]) = decT l[i].type_.toNat ++ 58 :: hexs l[i].data := rfl
    have hx := hexs_len l[i].data
    have hd := decT_len l[i].type_.toNat
    have hnum := r29number_is hr.2
    rw [hr.1] at hnum
    rw [show ((i + 1 : Nat) : Int) = (i : Int) + 1 by omega, e0, e1] at go
    rw [L_ref29_subs_0_eq, ifd (by omega)]
    by_cases hz : i = 0
    · rw [if_pos hz] at go
      subst hz
      rw [ifn (by omega), if_pos (by omega), Int.toNat_natCast, bind_at hi, hnum, Option.bind_some]
      dsimp only
      have e9 : subsT ((l.take 0).map sTo) = [] := rfl
      rw [e9, if_pos (maxB_of (by simp only [List.length_append, List.length_cons, List.length_nil]; omega)), if_pos (maxB_of (by simp only [List.length_append, List.length_cons, List.length_nil]; omega)), if_pos (by omega), bind_at hi, r29hex_is (by omega), Option.bind_some]
      dsimp only
      rw [if_pos (maxB_of (by simp only [List.length_append, List.length_cons, List.length_nil]; omega)), w64 (x := ((0 : Nat) : Int) + 1) (by omega) (by omega)]
      rw [← go]; simp
    · rw [if_neg hz] at go
      rw [ifd (by omega), if_pos (maxB_of (by omega)), if_pos (by omega), Int.toNat_natCast, bind_at hi, hnum, Option.bind_some]
      dsimp only
      rw [if_pos (maxB_of (by simp only [List.length_append, List.length_cons, List.length_nil]; omega)), if_pos (maxB_of (by simp only [List.length_append, List.length_cons, List.length_nil]; omega)), if_pos (by omega), bind_at hi, r29hex_is (by omega), Option.bind_some]
      dsimp only
      rw [if_pos (maxB_of (by simp only [List.length_append, List.length_cons, List.length_nil]; omega)), w64 (x := (i : Int) + 1) (by omega) (by omega)]
      rw [← go]; simp
theorem r29subs_is {l : List S_api_Sub} (hl : l.length ≤ 1000) (ha : ∀ d ∈ l, d.data.length ≤ 100000 ∧ rng d.type_) : g_ref29_subs (l, ()) = some ((cellT [115, 117, 98, 115] (subsT (l.map sTo)), ()), ()) := by
  show h_ref29_subs fuel _ = _
  rw [h_ref29_subs_eq]
  exact r29subs_loop (n := fuel) hl ha l.length 0 fuel (by omega) (fuel_ge (by omega))
end Go.VP
set_option linter.unusedVariables false
set_option linter.unusedSimpArgs false
set_option maxRecDepth 100000
namespace Go.VP
open Go Go.VI
theorem kind_word {k : Int} (h : 1 ≤ k ∧ k ≤ 14) : kindM (wordM k) = k := by
  have A : ∀ n : Nat, n < 15 → 1 ≤ n → kindM (wordsK.getD n []) = n := by decide +kernel
  have := A k.toNat (by omega) (by omega)
  unfold wordM
  rw [if_pos h, this]
  omega
theorem kind_rng (w : Bs) : 0 ≤ kindM w ∧ kindM w ≤ 14 := by unfold kindM; split <;> omega
theorem word_kind {w : Bs} (h : kindM w ≠ 0) : wordM (kindM w) = w := by
  have hr := kind_rng w
  unfold wordM
  rw [if_pos (by omega)]
  unfold kindM at h ⊢
  split at h
  · rename_i hlt
    rw [if_pos hlt, Int.toNat_natCast]
    have hl : wordsK.idxOf w < wordsK.length := hlt
    rw [List.getD, List.getElem?_eq_getElem hl, Option.getD_some, List.getElem_idxOf hl]
  · exact absurd rfl h
theorem word_no (k : Int) : (32 : UInt8) ∉ wordM k := by
  have A : ∀ n : Nat, n < 15 → (32 : UInt8) ∉ wordsK.getD n [] := by decide +kernel
  unfold wordM
  split
  · exact A k.toNat (by omega)
  · simp
theorem bare_kind {m : XMsg} (h : bareX m = some m) : 1 ≤ m.kind ∧ m.kind ≤ 14 := by
  unfold bareX at h
  by_cases hk : 1 ≤ m.kind ∧ m.kind ≤ 14
  · exact hk
  · iterate 14 rw [if_neg (by omega)] at h
    cases h
theorem read_print {m : XMsg} {t : Bs} (h : printM m = some t) : readL t = some m := by
  unfold printM at h
  split at h
  · rename_i hh
    cases h
    obtain ⟨hb, hn⟩ := hh
    obtain ⟨i1, i2⟩ := there m fsM (zeroM m.kind) m fsM_words (get_no m) (chainM hn)
    have hk := kind_word (bare_kind hb)
    unfold readL
    rcases lineF_head m fsM with h' | ⟨g, _, x, h', _⟩
    · rw [h', List.append_nil, cutC_miss _ _ (word_no _)]
      dsimp only
      rw [hk, i1 h']
      exact if_pos ⟨rfl, hb⟩
    · rw [h', cutC_hit _ _ _ (word_no _)]
      dsimp only
      rw [hk, i2 _ h']
      exact if_pos ⟨rfl, hb⟩
  · cases h
theorem readF_inv {Q : XMsg → Prop} : ∀ (l : List (TFd XMsg)) (m0 m1 : XMsg) (rest rest1 : Bs) (more more1 : Bool), (∀ f ∈ l, ∀ s m m', Q m → f.put s m = some m' → Q m') → Q m0 → readF l m0 rest more = some (m1, rest1, more1) → Q m1
  | [], m0, m1, rest, rest1, more, more1, _, q, h => by rw [readF] at h; cases h; exact q
  | f :: r, m0, m1, rest, rest1, more, more1, hl, q, h => by
    have hr : ∀ f ∈ r, ∀ s m m', Q m → f.put s m = some m' → Q m' := fun x hx => hl x (by simp [hx])
    rw [readF] at h
    split at h
    · cases h; exact q
    · split at h
      · split at h
        · cases h
        · rename_i m' hp
          exact readF_inv r _ _ _ _ _ _ hr (hl f (by simp) _ _ _ q hp) h
      · exact readF_inv r _ _ _ _ _ _ hr q h
theorem inv_cmd (k : Int) (s : Bs) (m m' : XMsg) (h : m.kind = k ∧ Nums m) (hp : fd_cmd.put s m = some m') : m'.kind = k ∧ Nums m' := by
  obtain ⟨_, _, h3⟩ := num_put (fun _ _ => rfl) hp
  obtain ⟨v, hv, rfl⟩ := h3
  exact ⟨h.1, ⟨hv, h.2.ver, h.2.family, h.2.ae, h.2.plen, h.2.tag, h.2.metric, h.2.seq, h.2.seq2, h.2.interval, h.2.flags, h.2.hops, h.2.nonce, h.2.cost, h.2.type_, h.2.list, h.2.subs⟩⟩
theorem inv_ver (k : Int) (s : Bs) (m m' : XMsg) (h : m.kind = k ∧ Nums m) (hp : fd_ver.put s m = some m') : m'.kind = k ∧ Nums m' := by
  obtain ⟨_, _, h3⟩ := num_put (fun _ _ => rfl) hp
  obtain ⟨v, hv, rfl⟩ := h3
  exact ⟨h.1, ⟨h.2.cmd, hv, h.2.family, h.2.ae, h.2.plen, h.2.tag, h.2.metric, h.2.seq, h.2.seq2, h.2.interval, h.2.flags, h.2.hops, h.2.nonce, h.2.cost, h.2.type_, h.2.list, h.2.subs⟩⟩
theorem inv_auth (k : Int) (s : Bs) (m m' : XMsg) (h : m.kind = k ∧ Nums m) (hp : fd_auth.put s m = some m') : m'.kind = k ∧ Nums m' := by
  obtain ⟨_, _, h3⟩ := text_put (fun _ _ => rfl) hp
  obtain ⟨v, rfl⟩ := h3
  exact ⟨h.1, ⟨h.2.cmd, h.2.ver, h.2.family, h.2.ae, h.2.plen, h.2.tag, h.2.metric, h.2.seq, h.2.seq2, h.2.interval, h.2.flags, h.2.hops, h.2.nonce, h.2.cost, h.2.type_, h.2.list, h.2.subs⟩⟩
theorem inv_family (k : Int) (s : Bs) (m m' : XMsg) (h : m.kind = k ∧ Nums m) (hp : fd_family.put s m = some m') : m'.kind = k ∧ Nums m' := by
  obtain ⟨_, _, h3⟩ := num_put (fun _ _ => rfl) hp
  obtain ⟨v, hv, rfl⟩ := h3
  exact ⟨h.1, ⟨h.2.cmd, h.2.ver, hv, h.2.ae, h.2.plen, h.2.tag, h.2.metric, h.2.seq, h.2.seq2, h.2.interval, h.2.flags, h.2.hops, h.2.nonce, h.2.cost, h.2.type_, h.2.list, h.2.subs⟩⟩
theorem inv_ae (k : Int) (s : Bs) (m m' : XMsg) (h : m.kind = k ∧ Nums m) (hp : fd_ae.put s m = some m') : m'.kind = k ∧ Nums m' := by
  obtain ⟨_, _, h3⟩ := num_put (fun _ _ => rfl) hp
  obtain ⟨v, hv, rfl⟩ := h3
  exact ⟨h.1, ⟨h.2.cmd, h.2.ver, h.2.family, hv, h.2.plen, h.2.tag, h.2.metric, h.2.seq, h.2.seq2, h.2.interval, h.2.flags, h.2.hops, h.2.nonce, h.2.cost, h.2.type_, h.2.list, h.2.subs⟩⟩
theorem inv_prefix_ (k : Int) (s : Bs) (m m' : XMsg) (h : m.kind = k ∧ Nums m) (hp : fd_prefix_.put s m = some m') : m'.kind = k ∧ Nums m' := by
  obtain ⟨_, _, h3⟩ := text_put (fun _ _ => rfl) hp
  obtain ⟨v, rfl⟩ := h3
  exact ⟨h.1, ⟨h.2.cmd, h.2.ver, h.2.family, h.2.ae, h.2.plen, h.2.tag, h.2.metric, h.2.seq, h.2.seq2, h.2.interval, h.2.flags, h.2.hops, h.2.nonce, h.2.cost, h.2.type_, h.2.list, h.2.subs⟩⟩
theorem inv_plen (k : Int) (s : Bs) (m m' : XMsg) (h : m.kind = k ∧ Nums m) (hp : fd_plen.put s m = some m') : m'.kind = k ∧ Nums m' := by
  obtain ⟨_, _, h3⟩ := num_put (fun _ _ => rfl) hp
  obtain ⟨v, hv, rfl⟩ := h3
  exact ⟨h.1, ⟨h.2.cmd, h.2.ver, h.2.family, h.2.ae, hv, h.2.tag, h.2.metric, h.2.seq, h.2.seq2, h.2.interval, h.2.flags, h.2.hops, h.2.nonce, h.2.cost, h.2.type_, h.2.list, h.2.subs⟩⟩
theorem inv_tag (k : Int) (s : Bs) (m m' : XMsg) (h : m.kind = k ∧ Nums m) (hp : fd_tag.put s m = some m') : m'.kind = k ∧ Nums m' := by
  obtain ⟨_, _, h3⟩ := num_put (fun _ _ => rfl) hp
  obtain ⟨v, hv, rfl⟩ := h3
  exact ⟨h.1, ⟨h.2.cmd, h.2.ver, h.2.family, h.2.ae, h.2.plen, hv, h.2.metric, h.2.seq, h.2.seq2, h.2.interval, h.2.flags, h.2.hops, h.2.nonce, h.2.cost, h.2.type_, h.2.list, h.2.subs⟩⟩
theorem inv_next (k : Int) (s : Bs) (m m' : XMsg) (h : m.kind = k ∧ Nums m) (hp : fd_next.put s m = some m') : m'.kind = k ∧ Nums m' := by
  obtain ⟨_, _, h3⟩ := text_put (fun _ _ => rfl) hp
  obtain ⟨v, rfl⟩ := h3
  exact ⟨h.1, ⟨h.2.cmd, h.2.ver, h.2.family, h.2.ae, h.2.plen, h.2.tag, h.2.metric, h.2.seq, h.2.seq2, h.2.interval, h.2.flags, h.2.hops, h.2.nonce, h.2.cost, h.2.type_, h.2.list, h.2.subs⟩⟩
theorem inv_metric (k : Int) (s : Bs) (m m' : XMsg) (h : m.kind = k ∧ Nums m) (hp : fd_metric.put s m = some m') : m'.kind = k ∧ Nums m' := by
  obtain ⟨_, _, h3⟩ := num_put (fun _ _ => rfl) hp
  obtain ⟨v, hv, rfl⟩ := h3
  exact ⟨h.1, ⟨h.2.cmd, h.2.ver, h.2.family, h.2.ae, h.2.plen, h.2.tag, hv, h.2.seq, h.2.seq2, h.2.interval, h.2.flags, h.2.hops, h.2.nonce, h.2.cost, h.2.type_, h.2.list, h.2.subs⟩⟩
theorem inv_id (k : Int) (s : Bs) (m m' : XMsg) (h : m.kind = k ∧ Nums m) (hp : fd_id.put s m = some m') : m'.kind = k ∧ Nums m' := by
  obtain ⟨_, _, h3⟩ := text_put (fun _ _ => rfl) hp
  obtain ⟨v, rfl⟩ := h3
  exact ⟨h.1, ⟨h.2.cmd, h.2.ver, h.2.family, h.2.ae, h.2.plen, h.2.tag, h.2.metric, h.2.seq, h.2.seq2, h.2.interval, h.2.flags, h.2.hops, h.2.nonce, h.2.cost, h.2.type_, h.2.list, h.2.subs⟩⟩
theorem inv_seq (k : Int) (s : Bs) (m m' : XMsg) (h : m.kind = k ∧ Nums m) (hp : fd_seq.put s m = some m') : m'.kind = k ∧ Nums m' := by
  obtain ⟨_, _, h3⟩ := num_put (fun _ _ => rfl) hp
  obtain ⟨v, hv, rfl⟩ := h3
  exact ⟨h.1, ⟨h.2.cmd, h.2.ver, h.2.family, h.2.ae, h.2.plen, h.2.tag, h.2.metric, hv, h.2.seq2, h.2.interval, h.2.flags, h.2.hops, h.2.nonce, h.2.cost, h.2.type_, h.2.list, h.2.subs⟩⟩
theorem inv_seq2 (k : Int) (s : Bs) (m m' : XMsg) (h : m.kind = k ∧ Nums m) (hp : fd_seq2.put s m = some m') : m'.kind = k ∧ Nums m' := by
  obtain ⟨_, _, h3⟩ := num_put (fun _ _ => rfl) hp
  obtain ⟨v, hv, rfl⟩ := h3
  exact ⟨h.1, ⟨h.2.cmd, h.2.ver, h.2.family, h.2.ae, h.2.plen, h.2.tag, h.2.metric, h.2.seq, hv, h.2.interval, h.2.flags, h.2.hops, h.2.nonce, h.2.cost, h.2.type_, h.2.list, h.2.subs⟩⟩
theorem inv_interval (k : Int) (s : Bs) (m m' : XMsg) (h : m.kind = k ∧ Nums m) (hp : fd_interval.put s m = some m') : m'.kind = k ∧ Nums m' := by
  obtain ⟨_, _, h3⟩ := num_put (fun _ _ => rfl) hp
  obtain ⟨v, hv, rfl⟩ := h3
  exact ⟨h.1, ⟨h.2.cmd, h.2.ver, h.2.family, h.2.ae, h.2.plen, h.2.tag, h.2.metric, h.2.seq, h.2.seq2, hv, h.2.flags, h.2.hops, h.2.nonce, h.2.cost, h.2.type_, h.2.list, h.2.subs⟩⟩
theorem inv_flags (k : Int) (s : Bs) (m m' : XMsg) (h : m.kind = k ∧ Nums m) (hp : fd_flags.put s m = some m') : m'.kind = k ∧ Nums m' := by
  obtain ⟨_, _, h3⟩ := num_put (fun _ _ => rfl) hp
  obtain ⟨v, hv, rfl⟩ := h3
  exact ⟨h.1, ⟨h.2.cmd, h.2.ver, h.2.family, h.2.ae, h.2.plen, h.2.tag, h.2.metric, h.2.seq, h.2.seq2, h.2.interval, hv, h.2.hops, h.2.nonce, h.2.cost, h.2.type_, h.2.list, h.2.subs⟩⟩
theorem inv_hops (k : Int) (s : Bs) (m m' : XMsg) (h : m.kind = k ∧ Nums m) (hp : fd_hops.put s m = some m') : m'.kind = k ∧ Nums m' := by
  obtain ⟨_, _, h3⟩ := num_put (fun _ _ => rfl) hp
  obtain ⟨v, hv, rfl⟩ := h3
  exact ⟨h.1, ⟨h.2.cmd, h.2.ver, h.2.family, h.2.ae, h.2.plen, h.2.tag, h.2.metric, h.2.seq, h.2.seq2, h.2.interval, h.2.flags, hv, h.2.nonce, h.2.cost, h.2.type_, h.2.list, h.2.subs⟩⟩
theorem inv_nonce (k : Int) (s : Bs) (m m' : XMsg) (h : m.kind = k ∧ Nums m) (hp : fd_nonce.put s m = some m') : m'.kind = k ∧ Nums m' := by
  obtain ⟨_, _, h3⟩ := num_put (fun _ _ => rfl) hp
  obtain ⟨v, hv, rfl⟩ := h3
  exact ⟨h.1, ⟨h.2.cmd, h.2.ver, h.2.family, h.2.ae, h.2.plen, h.2.tag, h.2.metric, h.2.seq, h.2.seq2, h.2.interval, h.2.flags, h.2.hops, hv, h.2.cost, h.2.type_, h.2.list, h.2.subs⟩⟩
theorem inv_cost (k : Int) (s : Bs) (m m' : XMsg) (h : m.kind = k ∧ Nums m) (hp : fd_cost.put s m = some m') : m'.kind = k ∧ Nums m' := by
  obtain ⟨_, _, h3⟩ := num_put (fun _ _ => rfl) hp
  obtain ⟨v, hv, rfl⟩ := h3
  exact ⟨h.1, ⟨h.2.cmd, h.2.ver, h.2.family, h.2.ae, h.2.plen, h.2.tag, h.2.metric, h.2.seq, h.2.seq2, h.2.interval, h.2.flags, h.2.hops, h.2.nonce, hv, h.2.type_, h.2.list, h.2.subs⟩⟩
theorem inv_addr (k : Int) (s : Bs) (m m' : XMsg) (h : m.kind = k ∧ Nums m) (hp : fd_addr.put s m = some m') : m'.kind = k ∧ Nums m' := by
  obtain ⟨_, _, h3⟩ := text_put (fun _ _ => rfl) hp
  obtain ⟨v, rfl⟩ := h3
  exact ⟨h.1, ⟨h.2.cmd, h.2.ver, h.2.family, h.2.ae, h.2.plen, h.2.tag, h.2.metric, h.2.seq, h.2.seq2, h.2.interval, h.2.flags, h.2.hops, h.2.nonce, h.2.cost, h.2.type_, h.2.list, h.2.subs⟩⟩
theorem inv_orig (k : Int) (s : Bs) (m m' : XMsg) (h : m.kind = k ∧ Nums m) (hp : fd_orig.put s m = some m') : m'.kind = k ∧ Nums m' := by
  obtain ⟨_, _, h3⟩ := text_put (fun _ _ => rfl) hp
  obtain ⟨v, rfl⟩ := h3
  exact ⟨h.1, ⟨h.2.cmd, h.2.ver, h.2.family, h.2.ae, h.2.plen, h.2.tag, h.2.metric, h.2.seq, h.2.seq2, h.2.interval, h.2.flags, h.2.hops, h.2.nonce, h.2.cost, h.2.type_, h.2.list, h.2.subs⟩⟩
theorem inv_list (k : Int) (s : Bs) (m m' : XMsg) (h : m.kind = k ∧ Nums m) (hp : fd_list.put s m = some m') : m'.kind = k ∧ Nums m' := by
  obtain ⟨_, _, h3⟩ := list_put (fun _ _ => rfl) hp
  obtain ⟨v, hv, rfl⟩ := h3
  exact ⟨h.1, ⟨h.2.cmd, h.2.ver, h.2.family, h.2.ae, h.2.plen, h.2.tag, h.2.metric, h.2.seq, h.2.seq2, h.2.interval, h.2.flags, h.2.hops, h.2.nonce, h.2.cost, h.2.type_, hv, h.2.subs⟩⟩
theorem inv_type_ (k : Int) (s : Bs) (m m' : XMsg) (h : m.kind = k ∧ Nums m) (hp : fd_type_.put s m = some m') : m'.kind = k ∧ Nums m' := by
  obtain ⟨_, _, h3⟩ := num_put (fun _ _ => rfl) hp
  obtain ⟨v, hv, rfl⟩ := h3
  exact ⟨h.1, ⟨h.2.cmd, h.2.ver, h.2.family, h.2.ae, h.2.plen, h.2.tag, h.2.metric, h.2.seq, h.2.seq2, h.2.interval, h.2.flags, h.2.hops, h.2.nonce, h.2.cost, hv, h.2.list, h.2.subs⟩⟩
theorem inv_data (k : Int) (s : Bs) (m m' : XMsg) (h : m.kind = k ∧ Nums m) (hp : fd_data.put s m = some m') : m'.kind = k ∧ Nums m' := by
  obtain ⟨_, _, h3⟩ := text_put (fun _ _ => rfl) hp
  obtain ⟨v, rfl⟩ := h3
  exact ⟨h.1, ⟨h.2.cmd, h.2.ver, h.2.family, h.2.ae, h.2.plen, h.2.tag, h.2.metric, h.2.seq, h.2.seq2, h.2.interval, h.2.flags, h.2.hops, h.2.nonce, h.2.cost, h.2.type_, h.2.list, h.2.subs⟩⟩
theorem inv_subs (k : Int) (s : Bs) (m m' : XMsg) (h : m.kind = k ∧ Nums m) (hp : fd_subs.put s m = some m') : m'.kind = k ∧ Nums m' := by
  obtain ⟨_, _, h3⟩ := subs_put (fun _ _ => rfl) hp
  obtain ⟨v, hv, rfl⟩ := h3
  exact ⟨h.1, ⟨h.2.cmd, h.2.ver, h.2.family, h.2.ae, h.2.plen, h.2.tag, h.2.metric, h.2.seq, h.2.seq2, h.2.interval, h.2.flags, h.2.hops, h.2.nonce, h.2.cost, h.2.type_, h.2.list, hv⟩⟩
theorem fsM_inv (k : Int) : ∀ f ∈ fsM, ∀ s m m', (m.kind = k ∧ Nums m) → f.put s m = some m' → (m'.kind = k ∧ Nums m') := by
  intro f hf
  simp only [fsM, List.mem_cons, List.mem_nil_iff, or_false] at hf
  rcases hf with rfl | rfl | rfl | rfl | rfl | rfl | rfl | rfl | rfl | rfl | rfl | rfl | rfl | rfl | rfl | rfl | rfl | rfl | rfl | rfl | rfl | rfl | rfl | rfl
  · exact inv_cmd k
  · exact inv_ver k
  · exact inv_auth k
  · exact inv_family k
  · exact inv_ae k
  · exact inv_prefix_ k
  · exact inv_plen k
  · exact inv_tag k
  · exact inv_next k
  · exact inv_metric k
  · exact inv_id k
  · exact inv_seq k
  · exact inv_seq2 k
  · exact inv_interval k
  · exact inv_flags k
  · exact inv_hops k
  · exact inv_nonce k
  · exact inv_cost k
  · exact inv_addr k
  · exact inv_orig k
  · exact inv_list k
  · exact inv_type_ k
  · exact inv_data k
  · exact inv_subs k
theorem zero_get (k : Int) : ∀ f ∈ fsM, f.get (zeroM k) = [] := by
  intro f hf
  simp only [fsM, List.mem_cons, List.mem_nil_iff, or_false] at hf
  rcases hf with rfl | rfl | rfl | rfl | rfl | rfl | rfl | rfl | rfl | rfl | rfl | rfl | rfl | rfl | rfl | rfl | rfl | rfl | rfl | rfl | rfl | rfl | rfl | rfl <;> rfl
theorem zero_nums (k : Int) : Nums (zeroM k) := by
  constructor <;> first | (show rng 0; unfold rng; omega) | (intro d hd; cases hd)
theorem print_read {s : Bs} {m : XMsg} (h : readL s = some m) : printM m = some s := by
  unfold readL at h
  split at h
  · rename_i m' rest1 more hr
    split at h
    · rename_i hh
      cases h
      obtain ⟨rfl, hb⟩ := hh
      obtain ⟨hk, hn⟩ := readF_inv (Q := fun x => x.kind = kindM (cutC 32 s).1 ∧ Nums x) fsM _ _ _ _ _ _ (fsM_inv _) ⟨rfl, zero_nums _⟩ hr
      have hw : wordM m.kind = (cutC 32 s).1 := by
        rw [hk]
        exact word_kind (by have := bare_kind hb; omega)
      obtain ⟨c1, c2, c3⟩ := cutC_inv 32 s
      unfold printM
      rw [if_pos ⟨hb, hn⟩, hw]
      cases hm : (cutC 32 s).2.2 with
      | false =>
        rw [hm] at hr c2
        rw [readF_done] at hr
        have em : zeroM (kindM (cutC 32 s).1) = m := congrArg (·.1) (Option.some.inj hr)
        rw [if_neg (by decide), List.append_nil] at c2
        rw [← em, lineF_empty _ _ (zero_get _), List.append_nil, ← c2]
      | true =>
        rw [hm] at hr c2
        rw [if_pos rfl] at c2
        obtain ⟨i1, _⟩ := back fsM fsM_puts fsM _ _ _ _ fsM_words (fun _ h => h) (zero_get _) hr
        rw [i1, ← c2]
    · cases h
  · cases h
theorem read_iff {s : Bs} {m : XMsg} : readL s = some m ↔ printM m = some s := ⟨print_read, read_print⟩
end Go.VP
set_option linter.unusedVariables false
set_option linter.unusedSimpArgs false
set_option maxRecDepth 100000
namespace Go.VP
open Go Go.VI
theorem rvalue_loop {n : Nat} {s : Bs} (hs : s.length ≤ 1000000) : ∀ (d i m : Nat) (x : Int), i + d = min s.length 15 → d < m → -(100 * ((10 ^ i : Nat) : Int)) ≤ x - 100 → x + 100 ≤ 100 * ((10 ^ i : Nat) : Int) →
    L_ref29_value_0 n m s x i = some ((((s.take 15).drop i).foldl (fun n b => n * 10 + (b.toNat : Int) - 48) x, ()), ())
  | 0, i, m, x, h, hm, h1, h2 => by
    obtain ⟨m, rfl⟩ : ∃ k, m = k + 1 := ⟨m - 1, by omega⟩
    rw [L_ref29_value_0_eq, List.drop_of_length_le (by rw [List.length_take]; omega), List.foldl_nil]
    by_cases hl : i < s.length
    · rw [ifd (by omega), ifn (by omega)]
    · rw [ifn (by omega)]
  | d + 1, i, m, x, h, hm, h1, h2 => by
    obtain ⟨m, rfl⟩ : ∃ k, m = k + 1 := ⟨m - 1, by omega⟩
    have hi : i < s.length := by omega
    have hb := (s[i]).toNat_lt
    have hp : 10 ^ i ≤ 10 ^ 14 := Nat.pow_le_pow_right (by decide) (by omega)
    have hq : 10 ^ (i + 1) = 10 ^ i * 10 := Nat.pow_succ ..
    have h14 : 10 ^ 14 = 100000000000000 := by decide
    rw [h14] at hp
    have ht : (s.take 15).drop i = s[i] :: (s.take 15).drop (i + 1) := by
      rw [List.drop_eq_getElem_cons (by rw [List.length_take]; omega), List.getElem_take]
    have go := rvalue_loop (n := n) hs d (i + 1) m (x * 10 + ((s[i]).toNat : Int) - 48) (by omega) (by omega) (by rw [hq]; generalize 10 ^ i = K at *; omega) (by rw [hq]; generalize 10 ^ i = K at *; omega)
    rw [show ((i + 1 : Nat) : Int) = (i : Int) + 1 by omega] at go
    generalize 10 ^ i = K at hp h1 h2
    rw [L_ref29_value_0_eq, ifd (by omega), ifd (by omega), if_pos (by omega), Int.toNat_natCast, bind_at hi, w64 (x := x * 10) (by omega) (by omega), w64n, w64 (x := x * 10 + _) (by omega) (by omega), w64 (x := x * 10 + _ - 48) (by omega) (by omega), w64 (x := (i : Int) + 1) (by omega) (by omega), ht, List.foldl_cons]
    exact go
theorem rvalue_is {s : Bs} (hs : s.length ≤ 1000000) : g_ref29_value (s, ()) = some ((valQ s, ()), ()) := by
  show h_ref29_value fuel _ = _
  rw [h_ref29_value_eq]
  have := rvalue_loop (n := fuel) hs (min s.length 15) 0 fuel 0 (by omega) (fuel_ge (by omega)) (by decide) (by decide)
  rw [List.drop_zero] at this
  exact this
theorem valM_bd (s : Bs) : -100000000000000000 ≤ valQ s ∧ valQ s ≤ 100000000000000000 := by
  have key : ∀ (l : Bs) (i : Nat) (x : Int), -(100 * ((10 ^ i : Nat) : Int)) ≤ x - 100 → x + 100 ≤ 100 * ((10 ^ i : Nat) : Int) →
      -(100 * ((10 ^ (i + l.length) : Nat) : Int)) ≤ l.foldl (fun n b => n * 10 + (b.toNat : Int) - 48) x - 100 ∧ l.foldl (fun n b => n * 10 + (b.toNat : Int) - 48) x + 100 ≤ 100 * ((10 ^ (i + l.length) : Nat) : Int) := by
    intro l
    induction l with
    | nil => intro i x h1 h2; exact ⟨h1, h2⟩
    | cons b r ih =>
      intro i x h1 h2
      have hb := b.toNat_lt
      have hq : 10 ^ (i + 1) = 10 ^ i * 10 := Nat.pow_succ ..
      have := ih (i + 1) (x * 10 + (b.toNat : Int) - 48) (by rw [hq]; generalize 10 ^ i = K at *; omega) (by rw [hq]; generalize 10 ^ i = K at *; omega)
      rw [List.foldl_cons, List.length_cons, show i + (r.length + 1) = i + 1 + r.length by omega]
      exact this
  have := key (s.take 15) 0 0 (by decide) (by decide)
  have hl : (s.take 15).length ≤ 15 := by rw [List.length_take]; omega
  have hp : 10 ^ (0 + (s.take 15).length) ≤ 10 ^ 15 := Nat.pow_le_pow_right (by decide) (by omega)
  have h15 : 10 ^ 15 = 1000000000000000 := by decide
  rw [h15] at hp
  unfold valQ
  generalize 10 ^ (0 + (s.take 15).length) = K at *
  omega
theorem dg_is : ∀ d : Nat, d < 16 → ∀ c : Nat, c < 256 → (((([48, 49, 50, 51, 52, 53, 54, 55, 56, 57, 97, 98, 99, 100, 101, 102] : Bs).getD d 0).toNat : Int) == (c : Int)) = decide (ix (UInt8.ofNat c) = d) := by decide +kernel
theorem dg_at9 : ∀ d : Nat, d < 16 → ([48, 49, 50, 51, 52, 53, 54, 55, 56, 57, 97, 98, 99, 100, 101, 102] : Bs)[d]? = some (([48, 49, 50, 51, 52, 53, 54, 55, 56, 57, 97, 98, 99, 100, 101, 102] : Bs).getD d 0) := by decide +kernel
theorem rbytes2 {n m0 m1 : Nat} {s o : Bs} {x4 : Int} {j : Nat} (hj : j < s.length) (hs : s.length ≤ 1000000) : ∀ (r d m : Nat) (x : Int), d + r = 16 → r < m → 0 ≤ x → x ≤ 1000 + 16 * (d : Int) →
    L_ref29_bytes_2 n m0 m1 m s o x4 (j : Int) x (d : Int) = (if ((j : Int) == x4) = true then (L_ref29_bytes_1 n m0 m1 s o x4 (IntKind.wrap .i64 ((x + (if d ≤ ix s[j] ∧ ix s[j] < 16 then ix s[j] else 0 : Nat)) * 16)) ((j : Int) + 1)) else (L_ref29_bytes_1 n m0 m1 s o x4 (x + (if d ≤ ix s[j] ∧ ix s[j] < 16 then ix s[j] else 0 : Nat)) ((j : Int) + 1)))
  | 0, d, m, x, h, hm, h1, h2 => by
    obtain ⟨m, rfl⟩ : ∃ k, m = k + 1 := ⟨m - 1, by omega⟩
    obtain rfl : d = 16 := by omega
    rw [L_ref29_bytes_2_eq, ifn (by omega), if_neg (c := 16 ≤ ix s[j] ∧ ix s[j] < 16) (by omega), w64 (x := (j : Int) + 1) (by omega) (by omega)]
    rw [show x + ((0 : Nat) : Int) = x by omega]
  | r + 1, d, m, x, h, hm, h1, h2 => by
    obtain ⟨m, rfl⟩ : ∃ k, m = k + 1 := ⟨m - 1, by omega⟩
    have hd : d < 16 := by omega
    have key := dg_is d hd (s[j]).toNat (s[j]).toNat_lt
    rw [show UInt8.ofNat (s[j]).toNat = s[j] by simp] at key
    rw [L_ref29_bytes_2_eq, ifd (by omega), if_pos (by omega), Int.toNat_natCast, dg_at9 d hd, Option.bind_some, if_pos (by omega), Int.toNat_natCast, bind_at hj, key, w64 (x := (d : Int) + 1) (by omega) (by omega), show ((d : Int) + 1) = ((d + 1 : Nat) : Int) by omega]
    by_cases hx : ix s[j] = d
    · rw [ifd hx, w64 (x := x + (d : Int)) (by omega) (by omega), rbytes2 hj hs r (d + 1) m _ (by omega) (by omega) (by omega) (by omega), if_neg (c := d + 1 ≤ ix s[j] ∧ ix s[j] < 16) (by omega), if_pos (c := d ≤ ix s[j] ∧ ix s[j] < 16) (by omega), hx, show x + (d : Int) + ((0 : Nat) : Int) = x + (d : Int) by omega]
    · rw [ifn hx, rbytes2 hj hs r (d + 1) m _ (by omega) (by omega) h1 (by omega)]
      by_cases h3 : d ≤ ix s[j] ∧ ix s[j] < 16
      · rw [if_pos (c := d + 1 ≤ ix s[j] ∧ ix s[j] < 16) (by omega), if_pos (c := d ≤ ix s[j] ∧ ix s[j] < 16) h3]
      · rw [if_neg (c := d + 1 ≤ ix s[j] ∧ ix s[j] < 16) (by omega), if_neg (c := d ≤ ix s[j] ∧ ix s[j] < 16) h3]
theorem hxM_eq (c : UInt8) : (if 0 ≤ ix c ∧ ix c < 16 then ix c else 0 : Nat) = hxQ c := by
  unfold hxQ
  by_cases h : ix c < 16
  · rw [if_pos ⟨by omega, h⟩, if_pos h]
  · rw [if_neg (by omega), if_neg h]
theorem hxM_lt (c : UInt8) : hxQ c < 16 := by unfold hxQ; split <;> omega
theorem byt_of : ∀ x : Nat, x < 16 → ∀ y : Nat, y < 16 → u8of (IntKind.wrap .u8 (((x * 16 + y : Nat)) : Int)) = UInt8.ofNat (x * 16 + y) := by decide +kernel
theorem rbytes_loop {n : Nat} (hn : 100 ≤ n) {s : Bs} (hs : s.length ≤ 1000000) : ∀ (k i m : Nat) (o : Bs), s.length ≤ i + k → k < m → o.length ≤ i →
    i ≤ s.length + 2 → L_ref29_bytes_0 n m s o i = some ((o ++ bytQ (s.drop i), ()), ()) := by
  intro k
  induction k using Nat.strongRecOn with
  | ind k ih =>
    intro i m o h hm ho hi
    obtain ⟨m, rfl⟩ : ∃ k, m = k + 1 := ⟨m - 1, by omega⟩
    rw [L_ref29_bytes_0_eq, w64 (x := (i : Int) + 1) (by omega) (by omega)]
    by_cases h1 : i + 1 < s.length
    · have e2 : s.drop i = s[i] :: s[i + 1] :: s.drop (i + 2) := by rw [List.drop_eq_getElem_cons (by omega), List.drop_eq_getElem_cons h1]
      obtain ⟨q, hq⟩ : ∃ q, n = q + 3 := ⟨n - 3, by omega⟩
      have a0 := hxM_lt s[i]
      have a1 := hxM_lt s[i + 1]
      have go := ih (k - 2) (by omega) (i + 2) m (o ++ [UInt8.ofNat (hxQ s[i] * 16 + hxQ s[i + 1])]) (by omega) (by omega) (by simp; omega) (by omega)
      rw [show ((i + 2 : Nat) : Int) = (i : Int) + 2 by omega] at go
      have s1 : ∀ (x6 x : Int), L_ref29_bytes_1 n m n s o i x x6 = L_ref29_bytes_1 n m (q + 2 + 1) s o i x x6 := fun x6 x => by conv => lhs; arg 3; rw [hq]
      have b0 := rbytes2 (n := n) (m0 := m) (m1 := q + 2) (s := s) (o := o) (x4 := (i : Int)) (j := i) (by omega) hs 16 0 n 0 rfl (by omega) (by omega) (by omega)
      have b1 := rbytes2 (n := n) (m0 := m) (m1 := q + 1) (s := s) (o := o) (x4 := (i : Int)) (j := i + 1) h1 hs 16 0 n ((0 + (hxQ s[i] : Nat)) * 16) rfl (by omega) (by omega) (by omega)
      rw [show ((0 : Nat) : Int) = 0 from rfl, if_pos (by simp), hxM_eq, w64 (x := _ * 16) (by omega) (by omega)] at b0
      rw [show ((0 : Nat) : Int) = 0 from rfl, if_neg (by rw [beq_iff_eq]; omega), hxM_eq] at b1
      rw [ifd (by omega), s1, L_ref29_bytes_1_eq, w64 (x := (i : Int) + 2) (by omega) (by omega), ifd (by omega), b0]
      rw [show (i : Int) + 1 = ((i + 1 : Nat) : Int) by omega, L_ref29_bytes_1_eq, w64 (x := (i : Int) + 2) (by omega) (by omega), ifd (by omega), b1]
      rw [L_ref29_bytes_1_eq, w64 (x := (i : Int) + 2) (by omega) (by omega), ifn (by omega), show ((0 : Int) + (hxQ s[i] : Nat)) * 16 + (hxQ s[i + 1] : Nat) = ((hxQ s[i] * 16 + hxQ s[i + 1] : Nat) : Int) by omega, byt_of _ a0 _ a1, if_pos (maxB_of (by simp; omega)), go, e2, bytQ, List.append_assoc]
      rfl
    · rw [ifn (by omega)]
      have : bytQ (s.drop i) = [] := by
        have hl : (s.drop i).length ≤ 1 := by rw [List.length_drop]; omega
        match hd : s.drop i, hl with
        | [], _ => rfl
        | [_], _ => rfl
      rw [this, List.append_nil]
theorem rbytes_is {s : Bs} (hs : s.length ≤ 1000000) : g_ref29_bytes (s, ()) = some ((bytQ s, ()), ()) := by
  show h_ref29_bytes fuel _ = _
  rw [h_ref29_bytes_eq]
  have := rbytes_loop (n := fuel) (Nat.le_of_lt (fuel_ge (by decide))) hs s.length 0 fuel [] (by omega) (fuel_ge (by omega)) (by simp) (by omega)
  rw [List.drop_zero, List.nil_append] at this
  exact this
theorem bytM_len : ∀ (k : Nat) (s : Bs), s.length ≤ k → (bytQ s).length ≤ s.length
  | _, [], _ => by simp [bytQ]
  | _, [_], _ => by simp [bytQ]
  | k + 1, a :: b :: r, h => by
    have := bytM_len k r (by simp at h; omega)
    rw [bytQ]
    simp only [List.length_cons]
    omega
end Go.VP
set_option linter.unusedVariables false
set_option linter.unusedSimpArgs false
set_option maxRecDepth 100000
namespace Go.VP
open Go Go.VI
theorem printT_is {m : XMsg} (h : SmallM m) : g_text_Print (m, ()) = some (((printM m).getD [], (printM m).isSome, ()), ()) := by
  show x_text_Print _ = _
  unfold x_text_Print
  dsimp only
  rw [if_pos h]
theorem readT_is {s : Bs} (h : s.length ≤ 1000000) : g_text_Read (s, ()) = some (((readL s).getD (zeroM 0), (readL s).isSome, ()), ()) := by
  show x_text_Read _ = _
  unfold x_text_Read
  dsimp only
  rw [if_pos h]
theorem bareXB {m : XMsg} : bareB m = true ↔ bareX m = some m := by
  have e : bareOf m = bareX m := rfl
  unfold bareB
  rw [e]
  cases bareX m with
  | none => simp
  | some x =>
    show eqB x m = true ↔ _
    rw [eqB_true, Option.some.injEq]
theorem le_line (m : XMsg) : ∀ (l : List (TFd XMsg)), ∀ f ∈ l, (f.get m).length ≤ (lineF m l).length
  | [], f, h => by cases h
  | g :: r, f, h => by
    rw [lineF, List.length_append]
    rcases List.mem_cons.1 h with rfl | h
    · split
      · rename_i h0; rw [h0]; simp
      · simp only [List.length_cons, List.length_append]; omega
    · have := le_line m r f h; omega
theorem joinC_ge (c : UInt8) : ∀ (l : List Bs), (∀ p ∈ l, p ≠ []) → l.length ≤ (joinC c l).length ∧ ∀ p ∈ l, p.length ≤ (joinC c l).length
  | [], _ => ⟨Nat.le_refl _, fun p h => by cases h⟩
  | [p], h => by
    have : p ≠ [] := h p (by simp)
    have h1 := List.length_pos_iff.2 this
    exact ⟨by rw [joinC]; simp; omega, fun q hq => by rw [List.mem_singleton.1 hq, joinC]; exact Nat.le_refl _⟩
  | p :: q :: r, h => by
    obtain ⟨h1, h2⟩ := joinC_ge c (q :: r) (fun x hx => h x (List.mem_cons_of_mem _ hx))
    have h3 := List.length_pos_iff.2 (h p (by simp))
    rw [joinC]
    refine ⟨by simp only [List.length_cons, List.length_append] at h1 ⊢; omega, fun x hx => ?_⟩
    rcases List.mem_cons.1 hx with rfl | hx
    · simp
    · have := h2 x hx; simp only [List.length_cons, List.length_append]; omega
theorem small_line {m : XMsg} {K : Nat} (hK : K ≤ 1000) (h : ∀ f ∈ fsM, (f.get m).length ≤ K) : SmallM m := by
  have tx : ∀ (w : Bs) (g : XMsg → Bs) (p : XMsg → Bs → XMsg), textF w g p ∈ fsM → (g m).length ≤ 100000 := fun w g p hm => by
    have : (hexs (g m)).length ≤ K := h _ hm
    rw [hexs_len] at this; omega
  have hl : (listT (m.list.map dTo)).length ≤ K := h fd_list (by simp [fsM])
  have hs : (subsT (m.subs.map sTo)).length ≤ K := h fd_subs (by simp [fsM])
  obtain ⟨l1, l2⟩ := joinC_ge 44 ((m.list.map dTo).map destT) (fun p hp => by obtain ⟨x, _, rfl⟩ := List.mem_map.1 hp; exact destT_ne x)
  obtain ⟨s1, s2⟩ := joinC_ge 44 ((m.subs.map sTo).map subT) (fun p hp => by obtain ⟨x, _, rfl⟩ := List.mem_map.1 hp; exact subT_ne x)
  rw [List.length_map, List.length_map] at l1 s1
  unfold listT at hl
  unfold subsT at hs
  refine ⟨tx _ _ _ (show fd_auth ∈ fsM by simp [fsM]), tx _ _ _ (show fd_prefix_ ∈ fsM by simp [fsM]), tx _ _ _ (show fd_next ∈ fsM by simp [fsM]), tx _ _ _ (show fd_id ∈ fsM by simp [fsM]), tx _ _ _ (show fd_addr ∈ fsM by simp [fsM]), tx _ _ _ (show fd_orig ∈ fsM by simp [fsM]), tx _ _ _ (show fd_data ∈ fsM by simp [fsM]), ⟨by omega, fun d hd => ?_⟩, ⟨by omega, fun d hd => ?_⟩⟩
  · have := l2 (destT (dTo d)) (List.mem_map.2 ⟨_, List.mem_map.2 ⟨d, hd, rfl⟩, rfl⟩)
    have e : (destT (dTo d)).length = (hexs d.addr).length + (1 + (decT d.seq.toNat).length) := by simp [destT, dTo]; omega
    rw [hexs_len] at e; omega
  · have := s2 (subT (sTo d)) (List.mem_map.2 ⟨_, List.mem_map.2 ⟨d, hd, rfl⟩, rfl⟩)
    have e : (subT (sTo d)).length = (decT d.type_.toNat).length + (1 + (hexs d.data).length) := by simp [subT, sTo]; omega
    rw [hexs_len] at e; omega
theorem printM_eq {m : XMsg} {s : Bs} (h : printM m = some s) : (bareX m = some m ∧ Nums m) ∧ s = wordM m.kind ++ lineF m fsM := by
  unfold printM at h
  split at h
  · rename_i hq; injection h with h; exact ⟨hq, h.symm⟩
  · cases h
theorem printM_pos {m : XMsg} (h : bareX m = some m) (hN : Nums m) : printM m = some (wordM m.kind ++ lineF m fsM) := by
  unfold printM; rw [if_pos ⟨h, hN⟩]
theorem small_read {m : XMsg} {s : Bs} (hs : s.length ≤ 1000) (h : readL s = some m) : SmallM m := by
  have h1 := (printM_eq (print_read h)).2
  exact small_line (K := 1000) (Nat.le_refl _) (fun f hf => by have := le_line m fsM f hf; rw [h1, List.length_append] at hs; omega)
theorem word_len (k : Int) : (wordM k).length ≤ 10 := by
  unfold wordM
  split
  · rename_i h
    have : k = 1 ∨ k = 2 ∨ k = 3 ∨ k = 4 ∨ k = 5 ∨ k = 6 ∨ k = 7 ∨ k = 8 ∨ k = 9 ∨ k = 10 ∨ k = 11 ∨ k = 12 ∨ k = 13 ∨ k = 14 := by omega
    rcases this with rfl | rfl | rfl | rfl | rfl | rfl | rfl | rfl | rfl | rfl | rfl | rfl | rfl | rfl <;> decide
  · simp
theorem joinC_few (c : UInt8) (k : Nat) (l : List Bs) (n : Nat) (h : ∀ p ∈ l, p.length ≤ k) (hn : l.length ≤ n) : (joinC c l).length ≤ (k + 1) * n :=
  Nat.le_trans (joinC_le c k l h) (Nat.mul_le_mul_left _ hn)
def exM : XMsg := ⟨8, 0, 0, [], 0, 0, [], 0, 0, [], 0, [], 0, 0, 0, 0, 0, 7, 0, [], [], [], 0, [], [⟨2, [97, 98]⟩, ⟨3, []⟩]⟩
def exS : Bs := [97, 99, 107, 32, 110, 111, 110, 99, 101, 61, 55, 32, 115, 117, 98, 115, 61, 50, 58, 54, 49, 54, 50, 44, 51, 58]
theorem ex_print : printM exM = some exS := by
  rw [printM_pos rfl ⟨⟨by decide, by decide⟩, ⟨by decide, by decide⟩, ⟨by decide, by decide⟩, ⟨by decide, by decide⟩, ⟨by decide, by decide⟩, ⟨by decide, by decide⟩, ⟨by decide, by decide⟩, ⟨by decide, by decide⟩, ⟨by decide, by decide⟩, ⟨by decide, by decide⟩, ⟨by decide, by decide⟩, ⟨by decide, by decide⟩, ⟨by decide, by decide⟩, ⟨by decide, by decide⟩, ⟨by decide, by decide⟩, fun d hd => (by cases hd), fun d hd => by
    rcases List.mem_cons.1 hd with rfl | hd
    · exact ⟨by decide, by decide⟩
    · rw [List.mem_singleton.1 hd]; exact ⟨by decide, by decide⟩⟩]
  have : wordM exM.kind ++ lineF exM fsM = exS := by decide +kernel
  rw [this]
theorem awake29 : g_law29_awake () = some ((true, ()), ()) := by
  rw [g_law29_awake_eq]
  have hS : SmallM exM := ⟨by decide, by decide, by decide, by decide, by decide, by decide, by decide, ⟨by decide, fun d hd => by cases hd⟩, ⟨by decide, fun d hd => by
    rcases List.mem_cons.1 hd with rfl | hd
    · decide
    · rw [List.mem_singleton.1 hd]; decide⟩⟩
  have h1 := printT_is hS
  have h2 := readT_is (s := exS) (by decide)
  rw [ex_print] at h1
  rw [read_print ex_print] at h2
  have h1 : g_text_Print ((S_api_Msg.mk 8 0 0 ([] : List UInt8) 0 0 ([] : List UInt8) 0 0 ([] : List UInt8) 0 ([] : List UInt8) 0 0 0 0 0 7 0 ([] : List UInt8) ([] : List UInt8) [] 0 ([] : List UInt8) ([(S_api_Sub.mk 2 ([97, 98] : List UInt8)), (S_api_Sub.mk 3 ([] : List UInt8))])), ()) = some ((exS, true, ()), ()) := h1
  have h2 : g_text_Read (([97, 99, 107, 32, 110, 111, 110, 99, 101, 61, 55, 32, 115, 117, 98, 115, 61, 50, 58, 54, 49, 54, 50, 44, 51, 58] : List UInt8), ()) = some ((exM, true, ()), ()) := h2
  rw [h1, Option.bind_some, h2, Option.bind_some]
  dsimp only
  rw [ift, if_pos (show (exS == ([97, 99, 107, 32, 110, 111, 110, 99, 101, 61, 55, 32, 115, 117, 98, 115, 61, 50, 58, 54, 49, 54, 50, 44, 51, 58] : List UInt8)) = true by decide), ift]
  have h3 := same_is (a := exM) (b := exM) (by decide) (by decide)
  rw [eqB_refl] at h3
  have h3 : g_ref07_Same ((S_api_Msg.mk 8 0 0 ([] : List UInt8) 0 0 ([] : List UInt8) 0 0 ([] : List UInt8) 0 ([] : List UInt8) 0 0 0 0 0 7 0 ([] : List UInt8) ([] : List UInt8) [] 0 ([] : List UInt8) ([(S_api_Sub.mk 2 ([97, 98] : List UInt8)), (S_api_Sub.mk 3 ([] : List UInt8))])), exM, ()) = some ((true, ()), ()) := h3
  rw [h3, Option.bind_some]
  dsimp only
  rw [ift, word_is, Option.bind_some]
  rfl
end Go.VP
set_option linter.unusedVariables false
set_option linter.unusedSimpArgs false
set_option maxRecDepth 100000
namespace Go.VP
open Go Go.VI
def rngB (n : Int) : Bool := decide (0 ≤ n ∧ n ≤ 1099511627776)
theorem fine_loop {n : Nat} {l : List Int} (hl : l.length ≤ 100000) : ∀ (d i m : Nat), i + d = l.length → d < m → L_ref29_fine_0 n m l i = some (((l.drop i).all rngB, ()), ())
  | 0, i, m, h, hm => by
    obtain ⟨m, rfl⟩ : ∃ k, m = k + 1 := ⟨m - 1, by omega⟩
    rw [L_ref29_fine_0_eq, ifn (by omega), List.drop_of_length_le (by omega)]; rfl
  | d + 1, i, m, h, hm => by
    obtain ⟨m, rfl⟩ : ∃ k, m = k + 1 := ⟨m - 1, by omega⟩
    have hi : i < l.length := by omega
    have go := fine_loop (n := n) hl d (i + 1) m (by omega) (by omega)
    rw [show ((i + 1 : Nat) : Int) = (i : Int) + 1 by omega] at go
    rw [L_ref29_fine_0_eq, ifd (by omega), if_pos (by omega), Int.toNat_natCast, bind_at hi, List.drop_eq_getElem_cons hi, List.all_cons]
    by_cases h1 : l[i] < 0
    · rw [ifd h1, show rngB l[i] = false from decide_eq_false (by omega)]; rfl
    · rw [ifn h1]
      first
        | (rw [if_pos (by omega), bind_at hi]
           by_cases h2 : 1099511627776 < l[i]
           · rw [ifd h2, show rngB l[i] = false from decide_eq_false (by omega)]; rfl
           · rw [ifn h2, show rngB l[i] = true from decide_eq_true (by omega), w64 (x := (i : Int) + 1) (by omega) (by omega), go]; rfl)
theorem fine_is {l : List Int} (hl : l.length ≤ 100000) : g_ref29_fine (l, ()) = some ((l.all rngB, ()), ()) := by
  show h_ref29_fine fuel _ = _
  rw [h_ref29_fine_eq]
  have := fine_loop (n := fuel) hl l.length 0 fuel (by omega) (fuel_ge (by omega))
  rw [List.drop_zero] at this
  exact this
end Go.VP
set_option linter.unusedVariables false
set_option linter.unusedSimpArgs false
set_option maxRecDepth 100000
namespace Go.VP
open Go Go.VI
def numsL (m : XMsg) : List Int := [m.cmd, m.ver, m.family, m.ae, m.plen, m.tag, m.metric, m.seq, m.seq2, m.interval, m.flags, m.hops, m.nonce, m.cost, m.type_]
theorem has1_loop {n : Nat} {m0 : XMsg} (h1 : m0.list.length ≤ 1000) (h2 : m0.subs.length ≤ 1000) : ∀ (d i m : Nat) (acc : List Int), i + d = m0.subs.length → d < m → acc.length ≤ 2000 + i →
    L_ref29_Has_1 n m m0 acc i = some ((bareB m0 && (acc ++ (m0.subs.drop i).map (·.type_)).all rngB, ()), ())
  | 0, i, m, acc, h, hm, ha => by
    obtain ⟨m, rfl⟩ : ∃ k, m = k + 1 := ⟨m - 1, by omega⟩
    rw [L_ref29_Has_1_eq, ifn (by omega), rbare_is (by omega) (by omega), Option.bind_some, List.drop_of_length_le (by omega), List.map_nil, List.append_nil]
    cases hb : bareB m0 with
    | false => rfl
    | true =>
      dsimp only
      rw [if_pos rfl, fine_is (by omega)]; rfl
  | d + 1, i, m, acc, h, hm, ha => by
    obtain ⟨m, rfl⟩ : ∃ k, m = k + 1 := ⟨m - 1, by omega⟩
    have hi : i < m0.subs.length := by omega
    have go := has1_loop (n := n) h1 h2 d (i + 1) m (acc ++ [m0.subs[i].type_]) (by omega) (by omega) (by simp; omega)
    rw [show ((i + 1 : Nat) : Int) = (i : Int) + 1 by omega] at go
    have hbo : bo_int = 8 := by unfold bo_int; kernel_rfl
    rw [L_ref29_Has_1_eq, ifd (by omega), if_pos (by omega), Int.toNat_natCast, bind_at hi, if_pos (roomB_of (by rw [hbo]; simp only [List.length_cons, List.length_nil]; omega)), w64 (x := (i : Int) + 1) (by omega) (by omega), go, List.drop_eq_getElem_cons hi, List.map_cons, List.append_assoc acc, List.singleton_append]
theorem has0_loop {n : Nat} {m0 : XMsg} (hn : 2000 ≤ n) (h1 : m0.list.length ≤ 1000) (h2 : m0.subs.length ≤ 1000) : ∀ (d i m : Nat) (acc : List Int), i + d = m0.list.length → d < m → acc.length ≤ 100 + i →
    L_ref29_Has_0 n m m0 acc i = some ((bareB m0 && ((acc ++ (m0.list.drop i).map (·.seq)) ++ m0.subs.map (·.type_)).all rngB, ()), ())
  | 0, i, m, acc, h, hm, ha => by
    obtain ⟨m, rfl⟩ : ∃ k, m = k + 1 := ⟨m - 1, by omega⟩
    rw [L_ref29_Has_0_eq, ifn (by omega), List.drop_of_length_le (by omega), List.map_nil, List.append_nil]
    have := has1_loop (n := n) h1 h2 m0.subs.length 0 n acc (by omega) (by omega) (by omega)
    rw [List.drop_zero] at this
    exact this
  | d + 1, i, m, acc, h, hm, ha => by
    obtain ⟨m, rfl⟩ : ∃ k, m = k + 1 := ⟨m - 1, by omega⟩
    have hi : i < m0.list.length := by omega
    have go := has0_loop (n := n) hn h1 h2 d (i + 1) m (acc ++ [m0.list[i].seq]) (by omega) (by omega) (by simp; omega)
    rw [show ((i + 1 : Nat) : Int) = (i : Int) + 1 by omega] at go
    have hbo : bo_int = 8 := by unfold bo_int; kernel_rfl
    rw [L_ref29_Has_0_eq, ifd (by omega), if_pos (by omega), Int.toNat_natCast, bind_at hi, if_pos (roomB_of (by rw [hbo]; simp only [List.length_cons, List.length_nil]; omega)), w64 (x := (i : Int) + 1) (by omega) (by omega), go, List.drop_eq_getElem_cons hi, List.map_cons, List.append_assoc acc, List.singleton_append]
theorem has_is {m : XMsg} (h1 : m.list.length ≤ 1000) (h2 : m.subs.length ≤ 1000) : g_ref29_Has (m, ()) = some ((bareB m && ((numsL m ++ m.list.map (·.seq)) ++ m.subs.map (·.type_)).all rngB, ()), ()) := by
  show h_ref29_Has fuel _ = _
  rw [h_ref29_Has_eq]
  have := has0_loop (n := fuel) (Nat.le_of_lt (fuel_ge (by decide))) h1 h2 m.list.length 0 fuel (numsL m) (by omega) (fuel_ge (by omega)) (by simp [numsL])
  rw [List.drop_zero] at this
  exact this
end Go.VP
