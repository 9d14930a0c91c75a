import Derived.Test.YtngopicaeoapnaaGreatDoorKHPrintE
import Derived.Test.YtngopicaeoapnaaGreatDoorKHWrite
import Derived.Deep.MidRow
set_option linter.unusedVariables false
set_option linter.unusedSimpArgs false
set_option maxRecDepth 100000
namespace Go.VI
open Go Go.VP
theorem ar3 (w : List UInt8) (g : aa2 → Int) (p : aa2 → Int → aa2) (m : aa2) : ((am0 w g p).get m).length ≤ 300000000 := by
  show (if g m = 0 then [] else as2 (g m).toNat).length ≤ _
  split
  · simp
  · have := decT_len (g m).toNat; omega
theorem bw0 (w : List UInt8) (g : aa2 → List UInt8) (p : aa2 → List UInt8 → aa2) (m : aa2) (h : (g m).length ≤ 100000) : ((aq3 w g p).get m).length ≤ 300000000 := by
  show (ag9 (g m)).length ≤ _
  rw [hexs_len]; omega
theorem eN6 (w : List UInt8) (g : aa2 → List ac1) (p : aa2 → List ac1 → aa2) (m : aa2) (h : (g m).length ≤ 1000 ∧ ∀ d ∈ g m, d.addr.length ≤ 100000) : ((as3 w g p).get m).length ≤ 300000000 := by
  show (ai7 44 (((g m).map dTo).map an1)).length ≤ _
  have := joinC_le 44 200100 (((g m).map dTo).map an1) (fun p hp => by
    obtain ⟨x, hx, rfl⟩ := List.mem_map.1 hp
    obtain ⟨d, hd, rfl⟩ := List.mem_map.1 hx
    exact destT_len (h.2 d hd))
  rw [List.length_map, List.length_map] at this
  have h2 : 200101 * (g m).length ≤ 200101 * 1000 := Nat.mul_le_mul_left _ h.1
  omega
theorem aN4 (w : List UInt8) (g : aa2 → List aa8) (p : aa2 → List aa8 → aa2) (m : aa2) (h : (g m).length ≤ 1000 ∧ ∀ d ∈ g m, d.data.length ≤ 100000) : ((as4 w g p).get m).length ≤ 300000000 := by
  show (ai7 44 (((g m).map sTo).map au0)).length ≤ _
  have := joinC_le 44 200100 (((g m).map sTo).map au0) (fun p hp => by
    obtain ⟨x, hx, rfl⟩ := List.mem_map.1 hp
    obtain ⟨d, hd, rfl⟩ := List.mem_map.1 hx
    exact subT_len (h.2 d hd))
  rw [List.length_map, List.length_map] at this
  have h2 : 200101 * (g m).length ≤ 200101 * 1000 := Nat.mul_le_mul_left _ h.1
  omega
theorem dw6 {m : aa2} (h : bz8 m) : ∀ f ∈ fsM, (f.get m).length ≤ 300000000 := by
  intro f hf
  simp only [fsM, List.mem_cons, List.not_mem_nil, or_false] at hf
  rcases hf with rfl | rfl | rfl | rfl | rfl | rfl | rfl | rfl | rfl | rfl | rfl | rfl | rfl | rfl | rfl | rfl | rfl | rfl | rfl | rfl | rfl | rfl | rfl | rfl
  · exact ar3 _ _ _ m
  · exact ar3 _ _ _ m
  · exact bw0 _ _ _ m h.auth
  · exact ar3 _ _ _ m
  · exact ar3 _ _ _ m
  · exact bw0 _ _ _ m h.prefix_
  · exact ar3 _ _ _ m
  · exact ar3 _ _ _ m
  · exact bw0 _ _ _ m h.next
  · exact ar3 _ _ _ m
  · exact bw0 _ _ _ m h.id
  · exact ar3 _ _ _ m
  · exact ar3 _ _ _ m
  · exact ar3 _ _ _ m
  · exact ar3 _ _ _ m
  · exact ar3 _ _ _ m
  · exact ar3 _ _ _ m
  · exact ar3 _ _ _ m
  · exact bw0 _ _ _ m h.addr
  · exact bw0 _ _ _ m h.orig
  · exact eN6 _ _ _ m h.list
  · exact ar3 _ _ _ m
  · exact bw0 _ _ _ m h.data
  · exact aN4 _ _ _ m h.subs
theorem de8 {m : aa2} : ∀ (l : List (TFd aa2)), (∀ f ∈ l, (f.get m).length ≤ 300000000 ∧ f.w.length ≤ 10) → (ad5 m l).length ≤ 300000012 * l.length
  | [], _ => by simp [ad5]
  | f :: r, h => by
    have h1 := h f (by simp)
    have h2 := de8 r (fun g hg => h g (by simp [hg]))
    rw [ad5, List.length_append, List.length_cons]
    split
    · simp; omega
    · simp only [List.length_cons, List.length_append]; omega
theorem eJ9 : ∀ f ∈ fsM, f.w.length ≤ 10 := by
  intro f hf
  simp only [fsM, List.mem_cons, List.not_mem_nil, or_false] at hf
  rcases hf with rfl | rfl | rfl | rfl | rfl | rfl | rfl | rfl | rfl | rfl | rfl | rfl | rfl | rfl | rfl | rfl | rfl | rfl | rfl | rfl | rfl | rfl | rfl | rfl <;> decide
theorem bN2 {m : aa2} : Go.VP.bareB m = true ↔ aj9 m = some m := by
  have e : Go.VP.bareOf m = aj9 m := rfl
  unfold Go.VP.bareB
  rw [e]
  cases aj9 m with
  | none => simp
  | some x =>
    show Go.VP.eqB x m = true ↔ _
    rw [Go.VP.eqB_true, Option.some.injEq]
theorem cv0 (m : aa2) (f : TFd aa2) : ∀ (l : List (TFd aa2)), ad5 m (l ++ [f]) = ad5 m l ++ (if f.get m = [] then [] else 32 :: (f.w ++ 61 :: f.get m))
  | [] => by simp [ad5]
  | g :: r => by rw [List.cons_append, ad5, ad5, cv0 m f r, List.append_assoc]
end Go.VI
namespace Go.Proofs
open Go.RowKit Go.Sort Go.Lib
open Go.VI
theorem eu7 {m : aa2} {us : Array Value} {I : Nat → Nat → Prop} {w w' : World} (hv : ∀ (j : Nat) c, (ab2.enc false m : List (CV U.τ))[j]? = some c → ∃ x, us[j]? = some x ∧ PC Tryz.prog U w I c x)
    (hi : ∀ b o, I b o → (w.cell? ⟨b, o, none⟩).isSome = true) (hb : Below w.heap.size w w') : (∀ (j : Nat) c, (ab2.enc false m : List (CV U.τ))[j]? = some c → ∃ x, us[j]? = some x ∧ PC Tryz.prog U w' I c x) ∧ ∀ b o, I b o → (w'.cell? ⟨b, o, none⟩).isSome = true := by
  have hc : ∀ b o, I b o → w'.cell? ⟨b, o, none⟩ = w.cell? ⟨b, o, none⟩ := fun b o h => by
    obtain ⟨v, hv⟩ := Option.isSome_iff_exists.1 (hi b o h)
    exact hb.cell (p := ⟨b, o, none⟩) (World.block_lt_of_cell? w _ hv)
  refine ⟨fun j c hj => ?_, fun b o h => by rw [hc b o h]; exact hi b o h⟩
  obtain ⟨x, h1, h2⟩ := hv j c hj
  exact ⟨x, h1, h2.mono fun b o h => ⟨h, hc b o h⟩⟩
theorem av0.below {w w' : World} {v : Value} {l : List (Value × Value)} (h : av0 w v l) (hb : Below w.heap.size w w') : av0 w' v l :=
  h.imp id (Or.imp id fun ⟨g, off, cap, h1, h2, h3⟩ => ⟨g, off, cap, h1, h2, h3.below hb⟩)
theorem av0.form {w : World} {v : Value} {l : List (Value × Value)} (h : av0 w v l) : ∃ a n c, v = .slice a n c := by
  rcases h with ⟨_, h⟩ | ⟨_, p, c, h⟩ | ⟨g, off, c, h, _⟩
  · exact ⟨_, _, _, h⟩
  · exact ⟨_, _, _, h⟩
  · exact ⟨_, _, _, h⟩
theorem dC2 (us : Array Value) (W : World) (b : Nat) (fz) (hb : W.heap[b]? = some (.cells us 33 fz)) : W.rangeAt b 0 us.toList := fun j v hj => by
  rw [Nat.zero_add, Lib.cell_of_heap hb]; simpa using hj
theorem dT9 (us : Array Value) (hu : us.size = 25) : (Tryz.prog.info? 33).map (·.size) = some us.toList.length := by rw [show us.toList.length = 25 by simpa using hu]; kernel_rfl
set_option maxHeartbeats 4000000 in
theorem Tryz.Print_no (m : aa2) (us : Array Value) (hu : us.size = 25) (I : Nat → Nat → Prop) (w : World) (hv : ∀ (j : Nat) c, (ab2.enc false m : List (CV U.τ))[j]? = some c → ∃ x, us[j]? = some x ∧ PC Tryz.prog U w I c x)
    (hi : ∀ b o, I b o → (w.cell? ⟨b, o, none⟩).isSome = true) (henv : envW w) (hw : 4 ≤ w.heap.size) (hB : Go.VP.bareB m = false) :
    Calls Tryz.prog 7 #[.agg us] w fun e w' => e = .returned (.tuple #[.string ⟨#[]⟩, .bool false]) ∧ Below w.heap.size w w' := by
  have hr := Lib.hid (dC2 us (w.alloc (.cells us 33)) w.heap.size _ (heap_alloc_new w _))
  have hbl : Below w.heap.size w (w.alloc (.cells us 33)) := (Below.refl _ w).alloc (Nat.le_refl _) _
  obtain ⟨hv1, hi1⟩ := eu7 hv hi hbl
  have HB := Lib.hid (Tryz.bare_w m us I _ hu hv1 hi1 (af9 henv hw hbl) (Nat.le_trans hw hbl.size))
  clear hv1 hi1 hv hi
  rw [hB] at HB
  have hsz := dT9 us hu
  have hud := Tryz.underlying33
  go_enter Tryz.func7, Tryz.ntmps7
  iterate 18 (first | go_values | go_skip | go_guarded | go_step | go_upon | go_in | go_back)
  refine wpList_load_mid rfl 33 (.tmp 1) rfl w.heap.size 0 rfl us.toList _ hr.out hud rfl hsz ?_
  rw [Array.toArray_toList]
  clear hud hsz hr
  go_wp2_with (go_at_call 13; refine HB.out.mono ?_; rintro e w1 ⟨rfl, hb1⟩)
  go_ret2
  exact ⟨rfl, hbl.trans (hb1.mono hbl.size)⟩
end Go.Proofs
