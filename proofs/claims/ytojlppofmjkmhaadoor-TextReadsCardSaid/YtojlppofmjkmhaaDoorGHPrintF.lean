import Derived.Test.YtojlppofmjkmhaaDoorGHPrintE
import Derived.Test.YtojlppofmjkmhaaDoorGHWrite
import Derived.Deep.MidRow
set_option linter.unusedVariables false
set_option linter.unusedSimpArgs false
set_option maxRecDepth 100000
namespace Go.VI
open Go Go.VP
theorem num_len (w : List UInt8) (g : XMsg → Int) (p : XMsg → Int → XMsg) (m : XMsg) : ((numF w g p).get m).length ≤ 300000000 := by
  show (if g m = 0 then [] else decT (g m).toNat).length ≤ _
  split
  · simp
  · have := decT_len (g m).toNat; omega
theorem txt_len (w : List UInt8) (g : XMsg → List UInt8) (p : XMsg → List UInt8 → XMsg) (m : XMsg) (h : (g m).length ≤ 100000) : ((textF w g p).get m).length ≤ 300000000 := by
  show (hexs (g m)).length ≤ _
  rw [hexs_len]; omega
theorem lst_len (w : List UInt8) (g : XMsg → List S_api_Dest) (p : XMsg → List S_api_Dest → XMsg) (m : XMsg) (h : (g m).length ≤ 1000 ∧ ∀ d ∈ g m, d.addr.length ≤ 100000) : ((listFd w g p).get m).length ≤ 300000000 := by
  show (joinC 44 (((g m).map dTo).map destT)).length ≤ _
  have := joinC_le 44 200100 (((g m).map dTo).map destT) (fun p hp => by
    obtain ⟨x, hx, rfl⟩ := List.mem_map.1 hp
    obtain ⟨d, hd, rfl⟩ := List.mem_map.1 hx
    exact destT_len (h.2 d hd))
  rw [List.length_map, List.length_map] at this
  have h2 : 200101 * (g m).length ≤ 200101 * 1000 := Nat.mul_le_mul_left _ h.1
  omega
theorem sub_len (w : List UInt8) (g : XMsg → List S_api_Sub) (p : XMsg → List S_api_Sub → XMsg) (m : XMsg) (h : (g m).length ≤ 1000 ∧ ∀ d ∈ g m, d.data.length ≤ 100000) : ((subsFd w g p).get m).length ≤ 300000000 := by
  show (joinC 44 (((g m).map sTo).map subT)).length ≤ _
  have := joinC_le 44 200100 (((g m).map sTo).map subT) (fun p hp => by
    obtain ⟨x, hx, rfl⟩ := List.mem_map.1 hp
    obtain ⟨d, hd, rfl⟩ := List.mem_map.1 hx
    exact subT_len (h.2 d hd))
  rw [List.length_map, List.length_map] at this
  have h2 : 200101 * (g m).length ≤ 200101 * 1000 := Nat.mul_le_mul_left _ h.1
  omega
theorem get_len {m : XMsg} (h : SmallM m) : ∀ f ∈ fsM, (f.get m).length ≤ 300000000 := by
  intro f hf
  simp only [fsM, List.mem_cons, List.not_mem_nil, or_false] at hf
  rcases hf with rfl | rfl | rfl | rfl | rfl | rfl | rfl | rfl | rfl | rfl | rfl | rfl | rfl | rfl | rfl | rfl | rfl | rfl | rfl | rfl | rfl | rfl | rfl | rfl
  · exact num_len _ _ _ m
  · exact num_len _ _ _ m
  · exact txt_len _ _ _ m h.auth
  · exact num_len _ _ _ m
  · exact num_len _ _ _ m
  · exact txt_len _ _ _ m h.prefix_
  · exact num_len _ _ _ m
  · exact num_len _ _ _ m
  · exact txt_len _ _ _ m h.next
  · exact num_len _ _ _ m
  · exact txt_len _ _ _ m h.id
  · exact num_len _ _ _ m
  · exact num_len _ _ _ m
  · exact num_len _ _ _ m
  · exact num_len _ _ _ m
  · exact num_len _ _ _ m
  · exact num_len _ _ _ m
  · exact num_len _ _ _ m
  · exact txt_len _ _ _ m h.addr
  · exact txt_len _ _ _ m h.orig
  · exact lst_len _ _ _ m h.list
  · exact num_len _ _ _ m
  · exact txt_len _ _ _ m h.data
  · exact sub_len _ _ _ m h.subs
theorem line_len {m : XMsg} : ∀ (l : List (TFd XMsg)), (∀ f ∈ l, (f.get m).length ≤ 300000000 ∧ f.w.length ≤ 10) → (lineF m l).length ≤ 300000012 * l.length
  | [], _ => by simp [lineF]
  | f :: r, h => by
    have h1 := h f (by simp)
    have h2 := line_len r (fun g hg => h g (by simp [hg]))
    rw [lineF, List.length_append, List.length_cons]
    split
    · simp; omega
    · simp only [List.length_cons, List.length_append]; omega
theorem w_len : ∀ f ∈ fsM, f.w.length ≤ 10 := by
  intro f hf
  simp only [fsM, List.mem_cons, List.not_mem_nil, or_false] at hf
  rcases hf with rfl | rfl | rfl | rfl | rfl | rfl | rfl | rfl | rfl | rfl | rfl | rfl | rfl | rfl | rfl | rfl | rfl | rfl | rfl | rfl | rfl | rfl | rfl | rfl <;> decide
theorem bareX_B {m : XMsg} : Go.VP.bareB m = true ↔ bareX m = some m := by
  have e : Go.VP.bareOf m = bareX m := rfl
  unfold Go.VP.bareB
  rw [e]
  cases bareX m with
  | none => simp
  | some x =>
    show Go.VP.eqB x m = true ↔ _
    rw [Go.VP.eqB_true, Option.some.injEq]
theorem lineF_snoc (m : XMsg) (f : TFd XMsg) : ∀ (l : List (TFd XMsg)), lineF m (l ++ [f]) = lineF m l ++ (if f.get m = [] then [] else 32 :: (f.w ++ 61 :: f.get m))
  | [] => by simp [lineF]
  | g :: r => by rw [List.cons_append, lineF, lineF, lineF_snoc m f r, List.append_assoc]
end Go.VI
namespace Go.Proofs
open Go.RowKit Go.Sort Go.Lib
open Go.VI
theorem pc_msg {m : XMsg} {us : Array Value} {I : Nat → Nat → Prop} {w w' : World} (hv : ∀ (j : Nat) c, (T_api_Msg.enc false m : List (CV U.τ))[j]? = some c → ∃ x, us[j]? = some x ∧ PC Tryd.prog U w I c x)
    (hi : ∀ b o, I b o → (w.cell? ⟨b, o, none⟩).isSome = true) (hb : Below w.heap.size w w') : (∀ (j : Nat) c, (T_api_Msg.enc false m : List (CV U.τ))[j]? = some c → ∃ x, us[j]? = some x ∧ PC Tryd.prog U w' I c x) ∧ ∀ b o, I b o → (w'.cell? ⟨b, o, none⟩).isSome = true := by
  have hc : ∀ b o, I b o → w'.cell? ⟨b, o, none⟩ = w.cell? ⟨b, o, none⟩ := fun b o h => by
    obtain ⟨v, hv⟩ := Option.isSome_iff_exists.1 (hi b o h)
    exact hb.cell (p := ⟨b, o, none⟩) (World.block_lt_of_cell? w _ hv)
  refine ⟨fun j c hj => ?_, fun b o h => by rw [hc b o h]; exact hi b o h⟩
  obtain ⟨x, h1, h2⟩ := hv j c hj
  exact ⟨x, h1, h2.mono fun b o h => ⟨h, hc b o h⟩⟩
theorem ListAt.below {w w' : World} {v : Value} {l : List (Value × Value)} (h : ListAt w v l) (hb : Below w.heap.size w w') : ListAt w' v l :=
  h.imp id (Or.imp id fun ⟨g, off, cap, h1, h2, h3⟩ => ⟨g, off, cap, h1, h2, h3.below hb⟩)
theorem ListAt.form {w : World} {v : Value} {l : List (Value × Value)} (h : ListAt w v l) : ∃ a n c, v = .slice a n c := by
  rcases h with ⟨_, h⟩ | ⟨_, p, c, h⟩ | ⟨g, off, c, h, _⟩
  · exact ⟨_, _, _, h⟩
  · exact ⟨_, _, _, h⟩
  · exact ⟨_, _, _, h⟩
theorem range_msg (us : Array Value) (W : World) (b : Nat) (fz) (hb : W.heap[b]? = some (.cells us 25 fz)) : W.rangeAt b 0 us.toList := fun j v hj => by
  rw [Nat.zero_add, Lib.cell_of_heap hb]; simpa using hj
theorem size_msg (us : Array Value) (hu : us.size = 25) : (Tryd.prog.info? 25).map (·.size) = some us.toList.length := by rw [show us.toList.length = 25 by simpa using hu]; kernel_rfl
set_option maxHeartbeats 4000000 in
theorem Tryd.Print_no (m : XMsg) (us : Array Value) (hu : us.size = 25) (I : Nat → Nat → Prop) (w : World) (hv : ∀ (j : Nat) c, (T_api_Msg.enc false m : List (CV U.τ))[j]? = some c → ∃ x, us[j]? = some x ∧ PC Tryd.prog U w I c x)
    (hi : ∀ b o, I b o → (w.cell? ⟨b, o, none⟩).isSome = true) (henv : envW w) (hw : 4 ≤ w.heap.size) (hB : Go.VP.bareB m = false) :
    Calls Tryd.prog 9 #[.agg us] w fun e w' => e = .returned (.tuple #[.string ⟨#[]⟩, .bool false]) ∧ Below w.heap.size w w' := by
  have hr := Lib.hid (range_msg us (w.alloc (.cells us 25)) w.heap.size _ (heap_alloc_new w _))
  have hbl : Below w.heap.size w (w.alloc (.cells us 25)) := (Below.refl _ w).alloc (Nat.le_refl _) _
  obtain ⟨hv1, hi1⟩ := pc_msg hv hi hbl
  have HB := Lib.hid (Tryd.bare_w m us I _ hu hv1 hi1 (env_below henv hw hbl) (Nat.le_trans hw hbl.size))
  clear hv1 hi1 hv hi
  rw [hB] at HB
  have hsz := size_msg us hu
  have hud := Tryd.underlying25
  go_enter Tryd.func9, Tryd.ntmps9
  iterate 18 (first | go_values | go_skip | go_guarded | go_step | go_upon | go_in | go_back)
  refine wpList_load_mid rfl 25 (.tmp 1) rfl w.heap.size 0 rfl us.toList _ hr.out hud rfl hsz ?_
  rw [Array.toArray_toList]
  clear hud hsz hr
  go_wp2_with (go_at_call 16; refine HB.out.mono ?_; rintro e w1 ⟨rfl, hb1⟩)
  go_ret2
  exact ⟨rfl, hbl.trans (hb1.mono hbl.size)⟩
end Go.Proofs
