/- strings.Split at a sign of one byte. -/
import Derived.Test.YtblajikhleocpaaDoorX1
set_option linter.unusedVariables false
set_option linter.unusedSimpArgs false
namespace Go.VI
open Go Go.Proofs Go.RowKit
theorem splitK_cons (c x : UInt8) (hx : ¬ x = c) : ∀ (k : Nat) (r : List UInt8), Lib.splitK [c] 0 k (x :: r) = match Lib.splitK [c] 0 k r with
    | h :: t => (x :: h) :: t
    | [] => [[x]]
  | 0, r => rfl
  | k + 1, r => by
    have hp : ([c] : List UInt8).isPrefixOf (x :: r) = false := by simp [List.isPrefixOf, Ne.symm hx]
    have hix : Lib.index (x :: r) [c] = if Lib.index r [c] == -1 then -1 else Lib.index r [c] + 1 := by rw [Lib.index, hp]; simp
    rw [Lib.splitK, Lib.splitK]
    by_cases hm : Lib.index r [c] = -1
    · rw [hix, if_pos (beq_iff_eq.2 hm), if_pos (by rfl), if_pos (beq_iff_eq.2 hm)]
    · have hge := Lib.index_ge r [c]
      obtain ⟨j, hj⟩ : ∃ j : Nat, Lib.index r [c] = j := ⟨(Lib.index r [c]).toNat, by omega⟩
      have hn : ¬ (Lib.index r [c] == -1) = true := fun e => hm (beq_iff_eq.1 e)
      rw [hix, if_neg hn, if_neg hn, hj, if_neg (fun e => by have := beq_iff_eq.1 e; omega)]
      rw [show ((j : Int) + 1).toNat = j + 1 by omega, Int.toNat_natCast]
      simp only [Nat.add_zero, List.take_succ_cons, List.length_singleton, List.drop_succ_cons]
theorem splitK_c (c : UInt8) : ∀ (s : List UInt8), Lib.splitK [c] 0 (Lib.count s [c]) s = splitC c s
  | [] => by rw [Lib.count_one]; rfl
  | x :: r => by
    have ih := splitK_c c r
    by_cases hx : x = c
    · subst hx
      have hix : Lib.index (x :: r) [x] = ((0 : Nat) : Int) := by rw [Lib.index]; simp [List.isPrefixOf]
      rw [Lib.count_cons_eq, Nat.add_comm, Lib.splitK, hix, if_neg (by decide), splitC, if_pos rfl, ← ih]
      rfl
    · rw [Lib.count_cons_ne x c r hx, splitK_cons c x hx, ih, splitC, if_neg hx]
      cases splitC c r <;> rfl
theorem splitC_len (c : UInt8) (s : List UInt8) : (splitC c s).length = s.count c + 1 := by
  induction s with
  | nil => rfl
  | cons x r ih =>
    rw [splitC]
    by_cases hx : x = c
    · subst hx; rw [if_pos rfl, List.length_cons, ih, List.count_cons_self]
    · rw [if_neg hx, List.count_cons_of_ne (by simpa using hx)]
      cases h : splitC c r with
      | nil => rw [h] at ih; simp at ih
      | cons a b => rw [h] at ih; simpa using ih
theorem tsplit (s : ByteArray) (c : UInt8) (w : World) (hs : s.size < 4294967281) :
    Calls Tryd.prog 28 #[.string s, .string ⟨#[c]⟩] w fun e w' =>
      e = .returned (.slice (some ⟨w.heap.size, 0, none⟩) (Lib.countB s ⟨#[c]⟩ + 1) (Lib.countB s ⟨#[c]⟩ + 1)) ∧ w' = w.alloc (.cells ((Lib.splitB ⟨#[c]⟩ 0 (Lib.countB s ⟨#[c]⟩) s).map Value.string).toArray 9) := by
  have h1 : 1 ≤ (⟨#[c]⟩ : ByteArray).size := Nat.le_refl 1
  have hle := Lib.countB_le ⟨#[c]⟩ h1 s.size s (Nat.le_refl _)
  have hlen := Lib.splitB_all ⟨#[c]⟩ h1 0 _ s rfl
  have c0 := Any.strings_genSplit_core Tryd.lays221 (by kernel_rfl) s ⟨#[c]⟩ 0 (-1) (Lib.countB s ⟨#[c]⟩ + 1) w hs h1 (Nat.zero_le _)
    (fun x cs hx => (Tryd.strings_Index_one x c _).mono fun e w' ⟨he, hw⟩ => ⟨by rw [he]; show _ = Ending.returned (Value.int .i64 (Lib.index x.data.toList [c])); rw [Lib.index_one], hw⟩)
    ((Tryd.strings_Count_one s c w).mono fun e w' ⟨he, hw⟩ => ⟨by rw [he]; show _ = Ending.returned (Value.int .i64 ((Lib.count s.data.toList [c] : Nat) : Int)); rw [Lib.count_one]; rfl, hw⟩)
    (by decide) (by decide) (by rw [if_pos (by decide)]; omega)
  rw [Nat.add_sub_cancel, hlen] at c0
  have e2 : Lib.cellsOf (Lib.splitB ⟨#[c]⟩ 0 (Lib.countB s ⟨#[c]⟩) s) (Lib.countB s ⟨#[c]⟩ + 1) = ((Lib.splitB ⟨#[c]⟩ 0 (Lib.countB s ⟨#[c]⟩) s).map Value.string).toArray := by rw [← hlen]; exact Lib.cellsOf_full _
  rw [e2] at c0
  go_enter Tryd.func28, Tryd.ntmps28
  go_wp2_with (go_at_call 42; refine c0.mono ?_; rintro e w' ⟨rfl, hw⟩; rw [hw])
  go_ret
  exact ⟨rfl, rfl⟩
/-- A row of texts in a new block, as a list. -/
theorem pc_texts {G0 : Ghost} {w : World} {l : List (List UInt8)} (hl : (l.length : Int) ≤ maxLenI) (hs : ∀ x ∈ l, (x.length : Int) ≤ maxLenI) (J : Nat → Nat → Prop) (hJ : ∀ o, o < l.length → J w.heap.size o) {cap : Nat} (hcap : l.length ≤ cap) {c : Array Value} {w' : World} (hc : ∀ o, w'.cell? ⟨w.heap.size, o, none⟩ = c[o]?) (hcc : ∀ (i : Nat) (x : List UInt8), l[i]? = some x → c[i]? = some (.string ⟨⟨x⟩⟩)) :
    PC Tryd.prog U w' (fun b o => G0.I b o ∨ J b o) (.sl 9 (l : List (List UInt8)) .ro) (.slice (some ⟨w.heap.size, 0, none⟩) l.length cap) := by
  have hsz : Tryd.prog.cellsOf 9 = 1 := by kernel_rfl
  have hlen : (l.map (fun x => [CV.str (τ := U.τ) x])).length = l.length := List.length_map ..
  have hget : ∀ (i : Nat) (cs : List (CV U.τ)), (l.map (fun x => [CV.str (τ := U.τ) x]))[i]? = some cs → ∃ x, l[i]? = some x ∧ cs = [.str x] := fun i cs h => by
    rw [List.getElem?_map] at h
    cases hx : l[i]? with
    | none => rw [hx] at h; cases h
    | some x => rw [hx] at h; injection h with h; exact ⟨x, rfl, h.symm⟩
  have := PC.of_cont (P := Tryd.prog) (U := U) (w := w') (I := fun b o => G0.I b o ∨ J b o) (c := .sl 9 l .ro) (e := 9) (css := l.map (fun x => [CV.str (τ := U.τ) x])) (f := .ro) (b := w.heap.size) (off := 0) (cap := cap) rfl (by simp) (by rw [hlen]; exact hcap) (by simp) (by rw [hlen]; exact hl)
    ⟨fun i cs h => by obtain ⟨x, _, rfl⟩ := hget i cs h; rw [hsz]; rfl,
     fun i cs j x h hj => by
      obtain ⟨y, hy, rfl⟩ := hget i cs h
      have hj0 : j = 0 := by cases j with | zero => rfl | succ j => simp at hj
      subst hj0
      rw [hsz]
      exact .inr (by rw [show 0 + i * 1 + 0 = i by omega]; exact hJ i (List.getElem?_eq_some_iff.1 hy).1),
     fun i cs j x h hj => by
      obtain ⟨y, hy, rfl⟩ := hget i cs h
      have hj0 : j = 0 := by cases j with | zero => rfl | succ j => simp at hj
      subst hj0
      injection hj with hj
      subst hj
      rw [hsz, show 0 + i * 1 + 0 = i by omega, hc, hcc i y hy]
      exact ⟨_, rfl, .str y (hs y (List.mem_of_getElem? hy))⟩⟩
  rw [hlen] at this
  exact this
/-- A row of texts, as a list. -/
theorem pc_textsAt {g : Nat} {G0 : Ghost} {l : List (List UInt8)} (hl : (l.length : Int) ≤ maxLenI) (hs : ∀ x ∈ l, (x.length : Int) ≤ maxLenI) (J : Nat → Nat → Prop) (hJ : ∀ o, o < l.length → J g o) {cap : Nat} (hcap : l.length ≤ cap) {w' : World} (hcc : ∀ (i : Nat) (x : List UInt8), l[i]? = some x → w'.cell? ⟨g, i, none⟩ = some (.string ⟨⟨x⟩⟩)) :
    PC Tryd.prog U w' (fun b o => G0.I b o ∨ J b o) (.sl 9 (l : List (List UInt8)) .ro) (.slice (some ⟨g, 0, none⟩) l.length cap) := by
  have hsz : Tryd.prog.cellsOf 9 = 1 := by kernel_rfl
  have hlen : (l.map (fun x => [CV.str (τ := U.τ) x])).length = l.length := List.length_map ..
  have hget : ∀ (i : Nat) (cs : List (CV U.τ)), (l.map (fun x => [CV.str (τ := U.τ) x]))[i]? = some cs → ∃ x, l[i]? = some x ∧ cs = [.str x] := fun i cs h => by
    rw [List.getElem?_map] at h
    cases hx : l[i]? with
    | none => rw [hx] at h; cases h
    | some x => rw [hx] at h; injection h with h; exact ⟨x, rfl, h.symm⟩
  have := PC.of_cont (P := Tryd.prog) (U := U) (w := w') (I := fun b o => G0.I b o ∨ J b o) (c := .sl 9 l .ro) (e := 9) (css := l.map (fun x => [CV.str (τ := U.τ) x])) (f := .ro) (b := g) (off := 0) (cap := cap) rfl (by simp) (by rw [hlen]; exact hcap) (by simp) (by rw [hlen]; exact hl)
    ⟨fun i cs h => by obtain ⟨x, _, rfl⟩ := hget i cs h; rw [hsz]; rfl,
     fun i cs j x h hj => by
      obtain ⟨y, hy, rfl⟩ := hget i cs h
      have hj0 : j = 0 := by cases j with | zero => rfl | succ j => simp at hj
      subst hj0
      rw [hsz]
      exact .inr (by rw [show 0 + i * 1 + 0 = i by omega]; exact hJ i (List.getElem?_eq_some_iff.1 hy).1),
     fun i cs j x h hj => by
      obtain ⟨y, hy, rfl⟩ := hget i cs h
      have hj0 : j = 0 := by cases j with | zero => rfl | succ j => simp at hj
      subst hj0
      injection hj with hj
      subst hj
      rw [hsz, show 0 + i * 1 + 0 = i by omega, hcc i y hy]
      exact ⟨_, rfl, .str y (hs y (List.mem_of_getElem? hy))⟩⟩
  rw [hlen] at this
  exact this
theorem splitC_small (c : UInt8) : ∀ (s : List UInt8), ∀ x ∈ splitC c s, x.length ≤ s.length
  | [], x, h => by rw [splitC] at h; rw [List.mem_singleton.1 h]; exact Nat.le_refl _
  | y :: r, x, h => by
    rw [splitC] at h
    by_cases hy : y = c
    · rw [if_pos hy] at h
      rcases List.mem_cons.1 h with rfl | h
      · simp
      · have := splitC_small c r x h; simp; omega
    · rw [if_neg hy] at h
      cases hr : splitC c r with
      | nil => rw [hr] at h; rw [List.mem_singleton.1 h]; simp
      | cons a b =>
        rw [hr] at h
        rcases List.mem_cons.1 h with rfl | h
        · have := splitC_small c r a (by rw [hr]; simp); simp; omega
        · have := splitC_small c r x (by rw [hr]; simp [h]); simp; omega
theorem x_strings_Split_ok : OkE e_strings_Split := by
  have key : ∀ (s t : List UInt8) (r : (List (List UInt8) × Unit) × Unit), x_strings_Split (s, t, ()) = some r → CallOk Tryd.prog U 28 [.val false [.str s], .val false [.str t]] (sg_strings_Split.out r) := by
    intro s t r h
    match t, h with
    | [c], h =>
      unfold x_strings_Split at h
      dsimp only at h
      by_cases hl : s.length ≤ 1000000
      · rw [if_pos hl] at h
        injection h with h
        subst h
        refine ext_ok (callable Tryd.func28 (by kernel_rfl) (by kernel_rfl)) rfl (fun G0 w vs ha henv => ?_)
        obtain ⟨v, u, rfl, h1, h2⟩ := args2 ha
        rw [pc_str h1, pc_str h2]
        have hsz : (⟨⟨s⟩⟩ : ByteArray).size = s.length := rfl
        refine (tsplit ⟨⟨s⟩⟩ c w (by rw [hsz]; omega)).mono fun e w' ⟨he, hw⟩ => ?_
        have hd : (Lib.splitB ⟨#[c]⟩ 0 (Lib.countB ⟨⟨s⟩⟩ ⟨#[c]⟩) ⟨⟨s⟩⟩).map (·.data.toList) = splitC c s := by
          rw [Lib.splitB_data]; exact splitK_c c s
        have hn : Lib.countB ⟨⟨s⟩⟩ ⟨#[c]⟩ + 1 = (splitC c s).length := by
          rw [← hd, List.length_map, Lib.splitB_all ⟨#[c]⟩ (Nat.le_refl 1) 0 _ _ rfl]
        have hlen := splitC_len c s
        have hcl := List.count_le_length (a := c) (l := s)
        rw [hn] at he
        refine ⟨_, he, ?_, fun b o => b = w.heap.size ∧ o < (splitC c s).length, fun b o hb => ?_, ?_⟩
        · rw [hw]; exact (Below.refl _ _).alloc (Nat.le_refl _) _
        · obtain ⟨rfl, ho⟩ := hb
          refine ⟨Nat.le_refl _, ?_⟩
          rw [hw, World.cell?_alloc_new]
          rw [← hd, List.length_map] at ho
          simp [ho]
        · refine pc_texts (l := splitC c s) (by unfold maxLenI; omega) (fun x hx => by have := splitC_small c s x hx; unfold maxLenI; omega) _ (fun o ho => ⟨rfl, ho⟩) (Nat.le_refl _) (fun o => by rw [hw, World.cell?_alloc_new]) (fun i x hi => ?_)
          rw [← hd, List.getElem?_map] at hi
          cases hx : (Lib.splitB ⟨#[c]⟩ 0 (Lib.countB ⟨⟨s⟩⟩ ⟨#[c]⟩) ⟨⟨s⟩⟩)[i]? with
          | none => rw [hx] at hi; cases hi
          | some y =>
            rw [hx] at hi
            injection hi with hi
            subst hi
            rw [List.getElem?_toArray, List.getElem?_map, hx]
            rfl
      · rw [if_neg hl] at h; cases h
    | [], h => cases h
    | _ :: _ :: _, h => cases h
  intro x r h
  exact key _ _ _ h
end Go.VI
