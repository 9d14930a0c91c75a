import Derived.Test.YtngopicaeoapnaaGreatDoorKFH
import Derived.Test.YtngopicaeoapnaaGreatDoorKShelf
import Derived.Shelf.Strings.SplitCore
import Derived.Shelf.Strings.BuilderF
import Derived.WalkKit
set_option linter.unusedVariables false
set_option linter.unusedSimpArgs false
namespace Go.VI
open Go Go.Proofs Go.RowKit
theorem dQ9 (l : List UInt8) (c : UInt8) : -1 ≤ Lib.indexByte l c ∧ Lib.indexByte l c ≤ l.length := by
  induction l with
  | nil => simp [Lib.indexByte]
  | cons x r ih =>
    rw [Lib.indexByte]
    split <;> simp only [List.length_cons] <;> (try split) <;> omega
theorem eJ5 {w : World} {I : Nat → Nat → Prop} {who : Nat → Option (Nat × Option Nat)} {loc : Nat → Nat × Nat} {c : CV U.τ} {vs : List Value} (h : ag6 Tryz.prog U w I who loc [.val false [c]] vs 0) : ∃ v, vs = [v] ∧ PC Tryz.prog U w I c v := by
  cases h with
  | val _ _ u1 _ vs1 _ h1 ha =>
  cases ha with
  | nil =>
  obtain ⟨c1, e1, h1⟩ := h1
  cases e1
  exact ⟨_, rfl, h1⟩
theorem eJ6 {w : World} {I : Nat → Nat → Prop} {who : Nat → Option (Nat × Option Nat)} {loc : Nat → Nat × Nat} {c d : CV U.τ} {vs : List Value} (h : ag6 Tryz.prog U w I who loc [.val false [c], .val false [d]] vs 0) : ∃ v u, vs = [v, u] ∧ PC Tryz.prog U w I c v ∧ PC Tryz.prog U w I d u := by
  cases h with
  | val _ _ u1 _ vs1 _ h1 ha =>
  cases ha with
  | val _ _ u2 _ vs2 _ h2 ha =>
  cases ha with
  | nil =>
  obtain ⟨c1, e1, h1⟩ := h1
  obtain ⟨c2, e2, h2⟩ := h2
  cases e1; cases e2
  exact ⟨_, _, rfl, h1, h2⟩
theorem aq6 {w : World} {I : Nat → Nat → Prop} {s : List UInt8} {v : Value} (h : PC Tryz.prog U w I (.str s) v) : v = .string ⟨⟨s⟩⟩ := by
  cases h with
  | str _ hs => rfl
  | nil _ e f h1 h2 => cases h1
  | emp _ e p cap h1 => cases h1
  | row _ e css f b off cap h1 => cases h1
theorem ae6 {w : World} {I : Nat → Nat → Prop} {k : IntKind} {n : Int} {v : Value} (h : PC Tryz.prog U w I (.int k n) v) : v = .int k n ∧ k.has n := by
  cases h with
  | int _ _ hk => exact ⟨rfl, hk⟩
  | nil _ e f h1 h2 => cases h1
  | emp _ e p cap h1 => cases h1
  | row _ e css f b off cap h1 => cases h1
theorem cM9 {x : Int} (h : -9223372036854775808 ≤ x ∧ x ≤ 9223372036854775807) : IntKind.has .i64 x := by
  unfold IntKind.has; exact ⟨by rw [show IntKind.i64.min = -9223372036854775808 from rfl]; exact h.1, by rw [show IntKind.i64.max = 9223372036854775807 from rfl]; exact h.2⟩
theorem ch7 : OkE aP1 := by
  have key : ∀ (s : List UInt8) (c : Int) (r : (Int × Unit) × Unit), aq5 (s, c, ()) = some r → au8 Tryz.prog U 91 [.val false [.str s], .val false [.int .u8 c]] (bn2.out r) := by
    intro s c r h
    unfold aq5 at h
    dsimp only at h
    by_cases hl : s.length ≤ 1000000
    · rw [if_pos hl] at h
      injection h with h
      subst h
      refine dO8 (aC7 Tryz.func91 (by kernel_rfl) (by kernel_rfl)) rfl (fun G0 w vs ha henv => ?_)
      obtain ⟨v, u, rfl, h1, h2⟩ := eJ6 ha
      rw [aq6 h1, (ae6 h2).1]
      refine (Tryz.strings_IndexByte ⟨⟨s⟩⟩ c w).mono fun e w' ⟨he, hw⟩ => ?_
      subst hw
      have hb := dQ9 s c.toNat.toUInt8
      exact ⟨_, he, Below.refl _ _, fun _ _ => False, fun _ _ h => h.elim, PC.int _ _ (cM9 (by show _ ≤ Lib.indexByte s c.toNat.toUInt8 ∧ Lib.indexByte s c.toNat.toUInt8 ≤ _; omega))⟩
    · rw [if_neg hl] at h; cases h
  intro x r h
  exact key _ _ _ h
end Go.VI
namespace Go.VI
open Go Go.Proofs Go.RowKit
theorem ea0 (c x : UInt8) (hx : ¬ x = c) : ∀ (k : Nat) (r : List UInt8), Lib.splitK [c] 0 k (x :: r) = match Lib.splitK [c] 0 k r with
    | h :: t => (x :: h) :: t
    | [] => [[x]]
  | 0, r => rfl
  | k + 1, r => by
    have hp : ([c] : List UInt8).isPrefixOf (x :: r) = false := by simp [List.isPrefixOf, Ne.symm hx]
    have hix : Lib.index (x :: r) [c] = if Lib.index r [c] == -1 then -1 else Lib.index r [c] + 1 := by rw [Lib.index, hp]; simp
    rw [Lib.splitK, Lib.splitK]
    by_cases hm : Lib.index r [c] = -1
    · rw [hix, if_pos (beq_iff_eq.2 hm), if_pos (by rfl), if_pos (beq_iff_eq.2 hm)]
    · have hge := Lib.index_ge r [c]
      obtain ⟨j, hj⟩ : ∃ j : Nat, Lib.index r [c] = j := ⟨(Lib.index r [c]).toNat, by omega⟩
      have hn : ¬ (Lib.index r [c] == -1) = true := fun e => hm (beq_iff_eq.1 e)
      rw [hix, if_neg hn, if_neg hn, hj, if_neg (fun e => by have := beq_iff_eq.1 e; omega)]
      rw [show ((j : Int) + 1).toNat = j + 1 by omega, Int.toNat_natCast]
      simp only [Nat.add_zero, List.take_succ_cons, List.length_singleton, List.drop_succ_cons]
theorem dR0 (c : UInt8) : ∀ (s : List UInt8), Lib.splitK [c] 0 (Lib.count s [c]) s = ab8 c s
  | [] => by rw [Lib.count_one]; rfl
  | x :: r => by
    have ih := dR0 c r
    by_cases hx : x = c
    · subst hx
      have hix : Lib.index (x :: r) [x] = ((0 : Nat) : Int) := by rw [Lib.index]; simp [List.isPrefixOf]
      rw [Lib.count_cons_eq, Nat.add_comm, Lib.splitK, hix, if_neg (by decide), ab8, if_pos rfl, ← ih]
      rfl
    · rw [Lib.count_cons_ne x c r hx, ea0 c x hx, ih, ab8, if_neg hx]
      cases ab8 c r <;> rfl
theorem bL4 (c : UInt8) (s : List UInt8) : (ab8 c s).length = s.count c + 1 := by
  induction s with
  | nil => rfl
  | cons x r ih =>
    rw [ab8]
    by_cases hx : x = c
    · subst hx; rw [if_pos rfl, List.length_cons, ih, List.count_cons_self]
    · rw [if_neg hx, List.count_cons_of_ne (by simpa using hx)]
      cases h : ab8 c r with
      | nil => rw [h] at ih; simp at ih
      | cons a b => rw [h] at ih; simpa using ih
theorem eS6 (s : ByteArray) (c : UInt8) (w : World) (hs : s.size < 4294967281) :
    Calls Tryz.prog 47 #[.string s, .string ⟨#[c]⟩] w fun e w' =>
      e = .returned (.slice (some ⟨w.heap.size, 0, none⟩) (Lib.countB s ⟨#[c]⟩ + 1) (Lib.countB s ⟨#[c]⟩ + 1)) ∧ w' = w.alloc (.cells ((Lib.splitB ⟨#[c]⟩ 0 (Lib.countB s ⟨#[c]⟩) s).map Value.string).toArray 9) := by
  have h1 : 1 ≤ (⟨#[c]⟩ : ByteArray).size := Nat.le_refl 1
  have hle := Lib.countB_le ⟨#[c]⟩ h1 s.size s (Nat.le_refl _)
  have hlen := Lib.splitB_all ⟨#[c]⟩ h1 0 _ s rfl
  have c0 := Any.strings_genSplit_core Tryz.lays221 (by kernel_rfl) s ⟨#[c]⟩ 0 (-1) (Lib.countB s ⟨#[c]⟩ + 1) w hs h1 (Nat.zero_le _)
    (fun x cs hx => (Tryz.strings_Index_one x c _).mono fun e w' ⟨he, hw⟩ => ⟨by rw [he]; show _ = Ending.returned (Value.int .i64 (Lib.index x.data.toList [c])); rw [Lib.index_one], hw⟩)
    ((Tryz.strings_Count_one s c w).mono fun e w' ⟨he, hw⟩ => ⟨by rw [he]; show _ = Ending.returned (Value.int .i64 ((Lib.count s.data.toList [c] : Nat) : Int)); rw [Lib.count_one]; rfl, hw⟩)
    (by decide) (by decide) (by rw [if_pos (by decide)]; omega)
  rw [Nat.add_sub_cancel, hlen] at c0
  have e2 : Lib.cellsOf (Lib.splitB ⟨#[c]⟩ 0 (Lib.countB s ⟨#[c]⟩) s) (Lib.countB s ⟨#[c]⟩ + 1) = ((Lib.splitB ⟨#[c]⟩ 0 (Lib.countB s ⟨#[c]⟩) s).map Value.string).toArray := by rw [← hlen]; exact Lib.cellsOf_full _
  rw [e2] at c0
  go_enter Tryz.func47, Tryz.ntmps47
  go_wp2_with (go_at_call 92; refine c0.mono ?_; rintro e w' ⟨rfl, hw⟩; rw [hw])
  go_ret
  exact ⟨rfl, rfl⟩
theorem ax7 (c : UInt8) : ∀ (s : List UInt8), ∀ x ∈ ab8 c s, x.length ≤ s.length
  | [], x, h => by rw [ab8] at h; rw [List.mem_singleton.1 h]; exact Nat.le_refl _
  | y :: r, x, h => by
    rw [ab8] at h
    by_cases hy : y = c
    · rw [if_pos hy] at h
      rcases List.mem_cons.1 h with rfl | h
      · simp
      · have := ax7 c r x h; simp; omega
    · rw [if_neg hy] at h
      cases hr : ab8 c r with
      | nil => rw [hr] at h; rw [List.mem_singleton.1 h]; simp
      | cons a b =>
        rw [hr] at h
        rcases List.mem_cons.1 h with rfl | h
        · have := ax7 c r a (by rw [hr]; simp); simp; omega
        · have := ax7 c r x (by rw [hr]; simp [h]); simp; omega
end Go.VI
namespace Go.Proofs
open Go.Shelf Go.RowKit
set_option maxHeartbeats 1000000 in
set_option maxRecDepth 100000 in
theorem Tryz.cc_used (b : Nat) (w : World) (h0 : w.cell? ⟨b, 0, none⟩ = some (.pointer (some ⟨b, 0, none⟩))) :
    Calls Tryz.prog 37 #[.pointer (some ⟨b, 0, none⟩)] w fun e w' => e = .returned (.tuple #[]) ∧ w' = w := by
  obtain ⟨j, hj, _⟩ := Option.map_eq_some_iff.1 Tryz.Builder_Extra_169.sizeBuilder
  go_enter Tryz.func37, Tryz.ntmps37
  go_wp2
  rw [Lib.run_neq_ptr_same w _ Tryz.underlying47 hj]
  go_wp2
  go_end0
  exact ⟨rfl, rfl⟩
set_option maxHeartbeats 1000000 in
set_option maxRecDepth 100000 in
theorem Tryz.cc_fresh (b : Nat) (w : World) (h0 : w.cell? ⟨b, 0, none⟩ = some (.pointer none)) (hsh : w.shape? b = some (50, 2)) (hfz : w.frozen? ⟨b, 0, none⟩ = false) :
    Calls Tryz.prog 37 #[.pointer (some ⟨b, 0, none⟩)] w fun e w' => e = .returned (.tuple #[]) ∧ w' = w.setCell ⟨b, 0, none⟩ (.pointer (some ⟨b, 0, none⟩)) := by
  obtain ⟨j, hj, hjs⟩ := Option.map_eq_some_iff.1 Tryz.Builder_Extra_169.sizeBuilder
  go_enter Tryz.func37, Tryz.ntmps37
  go_wp2
  rw [Lib.run_to_unsafe w ⟨b, 0, none⟩ Tryz.underlying47 Tryz.underlying133 hj (by rw [hjs]; decide) hsh (Nat.zero_lt_succ 1)]
  simp only [Result.andThen]
  rw [Oper.upon_value]
  go_wp2
  rw [run_callFunc_extern Tryz.func85 (by kernel_rfl) (by kernel_rfl) (by kernel_rfl) (e := Extern.AbiNoEscape.same) (by kernel_rfl)]
  rw [Lib.run_noEscape]
  simp only [Result.andThen]
  rw [Oper.upon_value]
  go_wp2
  rw [Lib.run_from_unsafe w ⟨b, 0, none⟩ Tryz.underlying133 Tryz.underlying47 hj hsh Tryz.Builder_Extra_169.liesBuilder]
  simp only [Result.andThen]
  rw [Oper.upon_value]
  go_wp2
  go_end0
  exact ⟨rfl, rfl⟩
end Go.Proofs
namespace Go.Proofs
open Go.RowKit Go.Sort Go.Lib
theorem bb8 {T e : TypeId} {B b : Nat} {bs : List Value} {w w' : World} (h : Lib.IsBuilderF T e B b bs w) (hb : Below w.heap.size w w') : Lib.IsBuilderF T e B b bs w' := by
  have one : ∀ p, Lib.BuilderAtF T e B b p bs w → Lib.BuilderAtF T e B b p bs w' := fun p ⟨hB, v, hbk, hown, hne⟩ => by
    have lt : ∀ (k : Nat) (o : Obj), w.heap[k]? = some o → k < w.heap.size := fun k o hk => (Array.getElem?_eq_some_iff.1 hk).1
    refine ⟨hB, v, (hb.block b (lt _ _ hbk)).trans hbk, ⟨hown.1, ?_⟩, hne⟩
    rcases hown.2 with hn | ⟨g, cap, cur, fz, hv, hbg, hg, rest⟩
    · exact .inl hn
    · exact .inr ⟨g, cap, cur, fz, hv, hbg, (hb.block g (lt _ _ hg)).trans hg, rest⟩
  exact h.elim (fun x => .inl (one _ x)) (fun x => .inr (one _ x))
theorem ej7 (w : World) (k : Nat) (os : Array Obj) : Below w.heap.size w (grow (w.drewN k) os) :=
  ⟨rfl, rfl, rfl, by simp [grow], fun i hi => by
    show (w.heap ++ os)[i]? = w.heap[i]?
    rw [Array.getElem?_append_left hi]⟩
theorem ag4 (w : World) (B : Nat) : Below B w w.drew := ⟨rfl, rfl, rfl, Nat.le_refl _, fun _ _ => rfl⟩
theorem af9 {w w' : World} (h : Go.VI.envW w) {B : Nat} (hB : 4 ≤ B) (hb : Below B w w') : Go.VI.envW w' :=
  Go.VI.envW_stable w w' (fun b hlt => hb.block b (by omega)) h
end Go.Proofs
namespace Go.VI
open Go Go.Proofs Go.RowKit
theorem aD3 {f : Nat} {ar : List (Arg U.τ)} {out : Out U.τ} {vs : Array Value} {w : World} {I : Nat → Nat → Prop} (h : au8 Tryz.prog U f ar out) (hp : af8 ar = [])
    (ha : ag6 Tryz.prog U w I (fun _ => none) (fun _ => (0, 0)) ar vs.toList 0) (hi : ∀ b o, I b o → (w.cell? ⟨b, o, none⟩).isSome = true) (henv : envW w) (hn : 4 ≤ w.heap.size) :
    Calls Tryz.prog f vs w fun e w' => ∃ u, e = .returned u ∧ Below w.heap.size w w' ∧ ∃ J : Nat → Nat → Prop, (∀ b o, J b o → I b o ∨ w.heap.size ≤ b) ∧ ay5 Tryz.prog U w' J out.ret u := by
  have := h.2 ⟨I, fun _ => (0, 0), fun _ => none⟩ w vs.toList ha hi (fun b L hb => by cases hb) ⟨henv, hn, fun _ _ => rfl⟩
  rw [show vs.toList.toArray = vs by simp] at this
  refine this.mono fun e w' ⟨u, G', he, hs, hr, _⟩ => ⟨u, he, ⟨hs.os, hs.tape, hs.output, hs.size, fun k hk => hs.old k hk rfl⟩, G'.I, fun b o hb => ?_, hr⟩
  rcases hs.newI b o hb with h1 | h1 | h1
  · exact .inl h1
  · exact .inr h1
  · cases h1
theorem ec8 {w : World} {I : Nat → Nat → Prop} {s : List UInt8} {u : Value} (h : ay5 Tryz.prog U w I (.one (.str s)) u) : u = .string ⟨⟨s⟩⟩ := aq6 h
theorem cu1 {w : World} {I : Nat → Nat → Prop} {b : Bool} {u : Value} (h : ay5 Tryz.prog U w I (.one (.bool b)) u) : u = .bool b := by
  have h : PC Tryz.prog U w I (.bool b) u := h
  cases h with
  | bool _ => rfl
  | nil _ e f h1 h2 => cases h1
  | emp _ e p cap h1 => cases h1
  | row _ e css f b off cap h1 => cases h1
theorem eL6 {w : World} {I : Nat → Nat → Prop} {k : IntKind} {n : Int} {u : Value} (h : ay5 Tryz.prog U w I (.one (.int k n)) u) : u = .int k n := (ae6 h).1
theorem bU7 {w : World} {s : List UInt8} {I : Nat → Nat → Prop} (hs : (s.length : Int) ≤ ad0) : ag6 Tryz.prog U w I (fun _ => none) (fun _ => (0, 0)) [.val false [.str s]] [.string ⟨⟨s⟩⟩] 0 :=
  .val _ _ _ _ _ _ ⟨_, rfl, .str s hs⟩ (.nil _)
theorem eB3 {w : World} {n : Int} {I : Nat → Nat → Prop} (hn : -9223372036854775808 ≤ n ∧ n ≤ 9223372036854775807) : ag6 Tryz.prog U w I (fun _ => none) (fun _ => (0, 0)) [.val false [.int .i64 n]] [.int .i64 n] 0 :=
  .val _ _ _ _ _ _ ⟨_, rfl, .int _ _ (cM9 hn)⟩ (.nil _)
end Go.VI
