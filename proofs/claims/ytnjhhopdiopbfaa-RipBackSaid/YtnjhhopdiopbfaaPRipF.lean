/- RIP's laws: what they share. -/
import Derived.Test.YtnjhhopdiopbfaaFQ2
import Derived.Test.YtnjhhopdiopbfaaFQ3
import Derived.Test.YtnjhhopdiopbfaaPBase
import Derived.Test.YtnjhhopdiopbfaaPCur
import Derived.Test.YtnjhhopdiopbfaaPOct
import Derived.Test.YtnjhhopdiopbfaaPTlv
import Derived.Test.YtnjhhopdiopbfaaPSub
import Derived.Test.YtnjhhopdiopbfaaPMsg
import Derived.Test.YtnjhhopdiopbfaaPBits
import Derived.Test.YtnjhhopdiopbfaaPRipA
import Derived.Test.YtnjhhopdiopbfaaPRipB
import Derived.Test.YtnjhhopdiopbfaaPRipC
import Derived.Test.YtnjhhopdiopbfaaPRipD
import Derived.Test.YtnjhhopdiopbfaaPRipE
import Derived.Test.YtnjhhopdiopbfaaFGood
set_option linter.unusedVariables false
set_option linter.unusedSimpArgs false
set_option maxRecDepth 100000
namespace Go.VP
open Go Go.VI
theorem sameAll_loop {a b : List Msg} {n : Nat} (hab : a = b) (hl : a.length ≤ 1000000) (hs : ∀ m ∈ a, m.list.length ≤ 1000000000 ∧ m.subs.length ≤ 1000000000) : ∀ (d m i : Nat), i + d = a.length → d < m → L_ref07_SameAll_0 n m a b i = some ((true, ()), ()) := by
  subst hab
  intro d
  induction d with
  | zero =>
    intro m i hd hm
    obtain ⟨m, rfl⟩ : ∃ k, m = k + 1 := ⟨m - 1, by omega⟩
    rw [L_ref07_SameAll_0_eq, ifn (by omega)]
  | succ d ih =>
    intro m i hd hm
    obtain ⟨m, rfl⟩ : ∃ k, m = k + 1 := ⟨m - 1, by omega⟩
    have hi : i < a.length := by omega
    have := ih m (i + 1) (by omega) (by omega)
    rw [show ((i + 1 : Nat) : Int) = (i : Int) + 1 by omega] at this
    have hm' := hs _ (List.getElem_mem hi)
    have hp : 0 ≤ (i : Int) := by omega
    rw [L_ref07_SameAll_0_eq, ifd (by omega)]
    simp only [if_pos hp, Int.toNat_natCast, List.getElem?_eq_getElem hi, Option.bind_some]
    rw [same_is hm'.1 hm'.2, Option.bind_some, eqB_refl, w64 (by omega) (by omega), this]; rfl
theorem sameAll_is {a : List Msg} (hl : a.length ≤ 1000000) (hs : ∀ m ∈ a, m.list.length ≤ 1000000000 ∧ m.subs.length ≤ 1000000000) : g_ref07_SameAll (a, a, ()) = some ((true, ()), ()) := by
  show h_ref07_SameAll fuel (a, a, ()) = _
  rw [h_ref07_SameAll_eq, if_neg (by simp)]
  exact sameAll_loop rfl hl hs a.length fuel 0 (by omega) (fuel_ge (by omega))
theorem goodMsg1 {m : Msg} (g : Good_api_Msg m) : GoodMsg m := by
  obtain ⟨g1, g2, g3, g4, g5, g6, g7, g8, g9, g10, g11, g12, g13, g14, g15, g16, g17, g18, g19, g20, g21, _⟩ := g
  exact ⟨g4, g7, g10, g12, g20, g21⟩
theorem goodRM {m : Msg} (g : Good_api_Msg m) (h : Few m) : RM m := by
  obtain ⟨g1, g2, g3, g4, g5, g6, g7, g8, g9, g10, g11, g12, g13, g14, g15, g16, g17, g18, g19, g20, g21, _⟩ := g
  exact ⟨g9, g8, by have := h.list; omega, by have := h.subs; omega⟩
theorem fewAll_loop {a : List Msg} {n : Nat} (g : ∀ m ∈ a, GoodMsg m) (hl : a.length ≤ 1000) : ∀ (d m i : Nat), i + d = a.length → d < m → ∃ b, L_ref07_FewAll_0 n m a i = some ((b, ()), ()) ∧ (b = true → ∀ m ∈ a.drop i, Few m) := by
  intro d
  induction d with
  | zero =>
    intro m i hd hm
    obtain ⟨m, rfl⟩ : ∃ k, m = k + 1 := ⟨m - 1, by omega⟩
    rw [L_ref07_FewAll_0_eq, ifn (by omega)]
    exact ⟨true, rfl, fun _ m hm => by rw [List.drop_eq_nil_of_le (by omega)] at hm; cases hm⟩
  | succ d ih =>
    intro m i hd hm
    obtain ⟨m, rfl⟩ : ∃ k, m = k + 1 := ⟨m - 1, by omega⟩
    have hi : i < a.length := by omega
    obtain ⟨b, h1, h2⟩ := ih m (i + 1) (by omega) (by omega)
    rw [show ((i + 1 : Nat) : Int) = (i : Int) + 1 by omega] at h1
    obtain ⟨c, k1, k2⟩ := few_is (g _ (List.getElem_mem hi))
    rw [L_ref07_FewAll_0_eq, ifd (by omega), if_pos (by omega), Int.toNat_natCast, bind_at hi, k1, Option.bind_some, w64 (by omega) (by omega), h1]
    cases c with
    | false => exact ⟨false, rfl, fun h => by cases h⟩
    | true =>
      refine ⟨b, rfl, fun h m hm => ?_⟩
      rw [List.drop_eq_getElem_cons hi] at hm
      rcases List.mem_cons.1 hm with rfl | hm
      · exact k2 rfl
      · exact h2 h m hm
theorem fewAll30 {a : List Msg} (g : ∀ m ∈ a, GoodMsg m) : ∃ b, g_ref07_FewAll (a, 30, ()) = some ((b, ()), ()) ∧ (b = true → a.length ≤ 30 ∧ ∀ m ∈ a, Few m) := by
  show ∃ b, h_ref07_FewAll fuel (a, 30, ()) = _ ∧ _
  rw [h_ref07_FewAll_eq]
  by_cases h : (30 : Int) < a.length
  · rw [ifd h]; exact ⟨false, rfl, fun h => by cases h⟩
  · rw [ifn h]
    obtain ⟨b, h1, h2⟩ := fewAll_loop (n := fuel) g (by omega) a.length fuel 0 (by omega) (fuel_ge (by omega))
    exact ⟨b, h1, fun hb => ⟨by omega, fun m hm => h2 hb m (by simpa using hm)⟩⟩
theorem goR_all {P : Msg → Prop} {f : Ent → Msg × Int} {b : Bs} (hf : ∀ e, P (f e).1) : ∀ (k at_ : Nat) (acc : List Msg), (∀ m ∈ acc, P m) → ∀ m ∈ (goR f b k at_ acc).1, P m
  | 0, _, acc, h => h
  | k + 1, at_, acc, h => by
    rw [goR]
    split
    · intro m hm; cases hm
    · exact goR_all hf k (at_ + 20) _ (fun m hm => by
        rcases List.mem_append.1 hm with hm | hm
        · exact h m hm
        · rw [List.mem_singleton] at hm; rw [hm]; exact hf _)
theorem goR_len {f : Ent → Msg × Int} {b : Bs} : ∀ (k at_ : Nat) (acc : List Msg), (goR f b k at_ acc).1.length ≤ acc.length + k
  | 0, _, acc => by simp [goR]
  | k + 1, at_, acc => by
    rw [goR]
    split
    · simp
    · have := goR_len (f := f) (b := b) k (at_ + 20) (acc ++ [(f (entF (cut_ b at_ 20))).1]); simp at this; omega
theorem parseR_all {P : Msg → Prop} {b : Bs} (hP : ∀ c v s e, P (routeM c v s e)) : ∀ m ∈ (parseR b).1, P m := by
  unfold parseR
  split
  · intro m hm; cases hm
  split
  · split
    · intro m hm; cases hm
    · exact goR_all (fun e => hP _ _ _ e) _ _ _ (fun m hm => by cases hm)
  · exact goR_all (fun e => hP _ _ _ e) _ _ _ (fun m hm => by cases hm)
theorem parseR_len {b : Bs} : (parseR b).1.length ≤ b.length := by
  unfold parseR
  split
  · simp
  split
  · split
    · simp
    · have := goR_len (f := rt (bt b 0) (bt b 1) ((cut_ b 4 20).drop 2) (decide (b.length = 44))) (b := b) ((b.length - 24) / 20) 24 []; simp at this; omega
  · have := goR_len (f := rt (bt b 0) (bt b 1) [] (decide (b.length = 24))) (b := b) ((b.length - 4) / 20) 4 []; simp at this; omega
def exB : Bs := [2, 2, 0, 0, 0, 2, 0, 7, 10, 0, 0, 0, 255, 0, 0, 0, 0, 0, 0, 0, 0, 0, 0, 3]
def exM : Msg := ⟨1, 2, 2, [], 2, 0, [10, 0, 0, 0], 8, 7, [0, 0, 0, 0], 3, [], 0, 0, 0, 0, 0, 0, 0, [], [], [], 0, [], []⟩
theorem exM_ok : okR exM := by
  refine ⟨rfl, ?_, .inr rfl, .inr rfl, rfl, rfl, .inl rfl, .inr ⟨rfl, by decide, by decide, .inr ⟨rfl, by decide, by decide, by decide, by decide, by decide +kernel⟩⟩⟩
  show bareB exM = true
  have : bareOf exM = some exM := by unfold bareOf; rw [if_pos (show exM.kind = 1 from rfl)]; rfl
  unfold bareB; rw [this]; exact eqB_refl _
theorem exM_rm : RM exM := ⟨has64.2 (by decide), has64.2 (by decide), by decide, by decide⟩
theorem ex_parse : parseR exB = ([exM], 0, 0) := by
  have h1 : headR exB = (0, 0) := by decide +kernel
  have h2 : ¬ (bt exB 1 = 2 ∧ authB (cut_ exB 4 20) = true) := by decide +kernel
  unfold parseR
  rw [h1, if_neg (by simp), if_neg h2, show (exB.length - 4) / 20 = 1 from rfl, goR]
  have e0 : entF (cut_ exB 4 20) = ⟨2, 7, [10, 0, 0, 0], [255, 0, 0, 0], [0, 0, 0, 0], 3⟩ := by kernel_rfl
  have p : plenF [255, 0, 0, 0] = (8, true) := by decide +kernel
  rw [show ((4 : Nat) : Int) = 4 from rfl, e0]
  have er : errR (bt exB 0) (bt exB 1) [] (decide (exB.length = 24)) ⟨2, 7, [10, 0, 0, 0], [255, 0, 0, 0], [0, 0, 0, 0], 3⟩ = 0 := by
    have hc : cleanB [10, 0, 0, 0] 8 = true := by decide +kernel
    have b1 : bt exB 1 = 2 := by decide
    unfold errR
    rw [b1]
    dsimp only
    rw [if_neg (by decide), if_neg (by decide), if_neg (by decide), p, if_neg (by rw [hc]; simp), if_neg (by decide)]
  have rm : routeM (bt exB 0) (bt exB 1) [] ⟨2, 7, [10, 0, 0, 0], [255, 0, 0, 0], [0, 0, 0, 0], 3⟩ = exM := by
    have b1 : bt exB 1 = 2 := by decide
    have b0 : bt exB 0 = 2 := by decide
    unfold routeM
    rw [b1, b0]
    dsimp only
    rw [if_neg (by decide), if_neg (by decide), p]; rfl
  unfold rt
  rw [er, rm, if_neg (by simp), goR]; rfl
theorem ex_enc : encR [exM] = (exB, 0, 0) := by
  unfold encR
  rw [badR_ok (fun m hm => by rw [List.mem_singleton] at hm; rw [hm]; exact exM_ok)]
  dsimp only
  rw [encGo, if_neg (by decide), if_neg (by decide), encGo]
  have : headE exM ++ lineF exM = exB := by decide +kernel
  rw [this]
theorem awake10 : g_law10_awake () = some ((true, ()), ()) := by
  have p := parse_is (b := exB) (by decide)
  have q := enc_is (l := [exM]) (fun m hm => by rw [List.mem_singleton] at hm; rw [hm]; exact exM_rm) (by simp)
  rw [ex_parse] at p
  rw [ex_enc] at q
  rw [g_law10_awake_eq, show ([2, 2, 0, 0, 0, 2, 0, 7, 10, 0, 0, 0, 255, 0, 0, 0, 0, 0, 0, 0, 0, 0, 0, 3] : Bs) = exB from rfl, p, Option.bind_some]
  dsimp only
  rw [q, Option.bind_some]
  dsimp only
  simp only [List.getElem?_cons_zero, Option.bind_some, ripRight_is exM_rm, rightR_true.2 exM_ok]
  rw [if_pos (by decide), if_pos (by decide), if_pos (by decide), if_pos (by simp), if_pos (by decide), if_pos (by decide), if_pos (by decide), if_pos (by decide)]
end Go.VP
