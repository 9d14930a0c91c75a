import Derived.Test.YtojlppofmjkmhaaDoorGHParts
import Derived.Test.YtojlppofmjkmhaaDoorGM0
import Derived.Test.YtojlppofmjkmhaaDoorGM1
import Derived.Deep.RegionHeld3
set_option linter.unusedVariables false
set_option linter.unusedSimpArgs false
set_option maxRecDepth 100000
namespace Go.Proofs
open Go.RowKit Go.Sort Go.Lib
open Go.VI
theorem Tryd.value_w (s : List UInt8) (w : World) (hs : s.length ≤ 1000000) (henv : envW w) (hw : 4 ≤ w.heap.size) :
    Calls Tryd.prog 53 #[.string ⟨⟨s⟩⟩] w fun e w' => e = .returned (.int .i64 (valQ s)) ∧ Below w.heap.size w w' := by
  have h := ok_at e_ref29_value_ok (s, ()) _ (Go.VP.rvalue_is hs)
  refine (plain_calls (I := noI) h rfl (arg1_str (s := s) (show (s.length : Int) ≤ 9223372036854775807 by omega)) (noI_cell w) henv hw).mono fun e w' ⟨u, he, hb, J, _, hr⟩ => ?_
  rw [ret_int hr] at he
  exact ⟨he, hb⟩
theorem Tryd.rbytes_w (s : List UInt8) (w : World) (hs : s.length ≤ 1000000) (henv : envW w) (hw : 4 ≤ w.heap.size) :
    Calls Tryd.prog 54 #[.string ⟨⟨s⟩⟩] w fun e w' => e = .returned (.string ⟨⟨bytQ s⟩⟩) ∧ Below w.heap.size w w' := by
  have h := ok_at e_ref29_bytes_ok (s, ()) _ (Go.VP.rbytes_is hs)
  refine (plain_calls (I := noI) h rfl (arg1_str (s := s) (show (s.length : Int) ≤ 9223372036854775807 by omega)) (noI_cell w) henv hw).mono fun e w' ⟨u, he, hb, J, _, hr⟩ => ?_
  rw [ret_str hr] at he
  exact ⟨he, hb⟩
structure SetW (bm : Nat) (U : Array Value) (w W : World) : Prop where
  box : W.heap[bm]? = some (.cells U 25 (0, 0))
  res : W.heap[bm + 1]? = some (.cells zeroU 25 (0, 0))
  below : Below bm w W
theorem SetW.next {bm : Nat} {U : Array Value} {w W W' : World} (h : SetW bm U w W) (hb : Below W.heap.size W W') : SetW bm U w W' := by
  have h1 := (Array.getElem?_eq_some_iff.1 h.box).1
  have h2 := (Array.getElem?_eq_some_iff.1 h.res).1
  exact ⟨(hb.block _ h1).trans h.box, (hb.block _ h2).trans h.res, h.below.trans (hb.mono (by omega))⟩
theorem SetW.start (U : Array Value) (w : World) : SetW w.heap.size U w ((w.alloc (Obj.cells U 25)).alloc (Obj.cells zeroU 25)) := by
  have h1 := heap_alloc_new w (.cells U 25)
  have h2 := heap_alloc_new (w.alloc (.cells U 25)) (.cells zeroU 25)
  have b1 : Below w.heap.size w (w.alloc (.cells U 25)) := (Below.refl _ w).alloc (Nat.le_refl _) _
  have b2 : Below (w.alloc (.cells U 25)).heap.size (w.alloc (.cells U 25)) ((w.alloc (.cells U 25)).alloc (.cells zeroU 25)) := (Below.refl _ _).alloc (Nat.le_refl _) _
  have hz : (w.alloc (.cells U 25)).heap.size = w.heap.size + 1 := by simp
  refine ⟨(b2.block _ (by omega)).trans h1, ?_, b1.trans (b2.mono (by omega))⟩
  rw [hz] at h2; exact h2
structure Keeps (w w' : World) (vl vs vl' vs' : Value) : Prop where
  os : w'.os = w.os
  tape : w'.tape = w.tape
  output : w'.output = w.output
  size : w.heap.size ≤ w'.heap.size
  block : ∀ k, k < w.heap.size → vl.ownBlock ≠ some k → vs.ownBlock ≠ some k → w'.heap[k]? = w.heap[k]?
  newL : ∀ g, vl'.ownBlock = some g → vl.ownBlock = some g ∨ w.heap.size ≤ g
  newS : ∀ g, vs'.ownBlock = some g → vs.ownBlock = some g ∨ w.heap.size ≤ g
theorem Keeps.of {w w' : World} {vl vs : Value} (h : Below w.heap.size w w') : Keeps w w' vl vs vl vs := ⟨h.os, h.tape, h.output, h.size, fun k hk _ _ => h.block k hk, fun _ h => .inl h, fun _ h => .inl h⟩
theorem Keeps.trans {w w' w'' : World} {vl vs vl' vs' vl'' vs'' : Value} (h : Keeps w w' vl vs vl' vs') (h' : Keeps w' w'' vl' vs' vl'' vs'') : Keeps w w'' vl vs vl'' vs'' := by
  refine ⟨h'.os.trans h.os, h'.tape.trans h.tape, h'.output.trans h.output, Nat.le_trans h.size h'.size, fun k hk h1 h2 => ?_, fun g hg => ?_, fun g hg => ?_⟩
  · refine (h'.block k (Nat.lt_of_lt_of_le hk h.size) (fun e => ?_) (fun e => ?_)).trans (h.block k hk h1 h2)
    · rcases h.newL k e with e | e
      · exact h1 e
      · omega
    · rcases h.newS k e with e | e
      · exact h2 e
      · omega
  · rcases h'.newL g hg with e | e
    · exact h.newL g e
    · exact .inr (Nat.le_trans h.size e)
  · rcases h'.newS g hg with e | e
    · exact h.newS g e
    · exact .inr (Nat.le_trans h.size e)
def SetPost (B : Nat) (w : World) (vl vs : Value) (m' : XMsg) (e : Ending) (w' : World) : Prop :=
  ∃ vl' vs', e = .returned (.agg (mcells m' vl' vs')) ∧ w'.ownsRow B 38 2 vl' m'.list.length (lRow m'.list) ∧ w'.ownsRow B 40 2 vs' m'.subs.length (bRow m'.subs) ∧ Keeps w w' vl vs vl' vs'
theorem one_set {U : Array Value} {i : Nat} {v : Value} (h : U.all (·.oneCell') = true) (hv : v.oneCell' = true) : (U.setIfInBounds i v).all (·.oneCell') = true := by
  rw [Array.all_eq_true] at h ⊢
  intro j hj
  rw [Array.getElem_setIfInBounds]
  split
  · exact hv
  · exact h j (by simpa using hj)
theorem below_row {B g : Nat} {w W : World} (h : Below B w W) (hg : B ≤ g) (cs : Array Value) : Below B w (W.setRow g cs) :=
  ⟨h.os, h.tape, h.output, by have := h.size; simpa using this, fun k hk => by
    rw [← h.block k hk]
    simp only [World.setRow, Array.getElem?_modify]
    rw [if_neg (by omega)]⟩
theorem set_fin {B : Nat} {m m' : XMsg} {vl vs v : Value} {U : Array Value} {i : Nat} {w W : World} (h : SetW w.heap.size U w W) (hl : w.ownsRow B 38 2 vl m.list.length (lRow m.list)) (hsb : w.ownsRow B 40 2 vs m.subs.length (bRow m.subs))
    (hU : U.setIfInBounds i v = mcells m' vl vs) (h1 : m'.list = m.list) (h2 : m'.subs = m.subs) :
    SetPost B w vl vs m' (.returned (.agg (U.setIfInBounds i v))) ((W.setCell ⟨w.heap.size, i, none⟩ v).setRow (w.heap.size + 1) (U.setIfInBounds i v)) := by
  have hb : Below w.heap.size w ((W.setCell ⟨w.heap.size, i, none⟩ v).setRow (w.heap.size + 1) (U.setIfInBounds i v)) := below_row (h.below.setCell (p := ⟨w.heap.size, i, none⟩) (Nat.le_refl _) v) (Nat.le_succ _) _
  exact ⟨vl, vs, by rw [hU], by rw [h1]; exact own_below hl hb, by rw [h2]; exact own_below hsb hb, Keeps.of hb⟩
theorem Keeps.row {w W : World} {vl vs vl' vs' : Value} (h : Keeps w W vl vs vl' vs') {g : Nat} (hg : w.heap.size ≤ g) (cs : Array Value) : Keeps w (W.setRow g cs) vl vs vl' vs' :=
  ⟨h.os, h.tape, h.output, by have := h.size; simpa using this, fun k hk h1 h2 => by
    rw [← h.block k hk h1 h2]
    simp only [World.setRow, Array.getElem?_modify]
    rw [if_neg (by omega)], h.newL, h.newS⟩
theorem own_at_lt {B : Nat} {e : TypeId} {sz : Nat} {v : Value} {n : Nat} {xs : List Value} {w : World} (h : w.ownsRow B e sz v n xs) {k : Nat} (hk : w.heap.size ≤ k) : v.ownBlock ≠ some k := fun he => by
  have := (h.lt k he).2
  omega
theorem ne_bq {a b : List UInt8} (h : (a == b) = false) : ¬ a = b := fun e => by rw [e] at h; simp at h
set_option maxHeartbeats 4000000 in
theorem Tryd.set_w (B : Nat) (m : XMsg) (vl vs : Value) (nm s : List UInt8) (w : World) (hs : s.length ≤ 1000000) (henv : envW w) (hw : 4 ≤ w.heap.size) (hB : B ≤ w.heap.size)
    (hl : w.ownsRow B 38 2 vl m.list.length (lRow m.list)) (hsb : w.ownsRow B 40 2 vs m.subs.length (bRow m.subs))
    (hmore : ∀ W, Below w.heap.size w W → Calls Tryd.prog 55 #[.agg (mcells m vl vs), .string ⟨⟨nm⟩⟩, .string ⟨⟨s⟩⟩] W (SetPost B W vl vs (moreQ m nm s))) :
    Calls Tryd.prog 33 #[.agg (mcells m vl vs), .string ⟨⟨nm⟩⟩, .string ⟨⟨s⟩⟩] w (SetPost B w vl vs (setQ m nm s)) := by
  have hvl1 : vl.oneCell' = true := by obtain ⟨a, n, c, rfl⟩ := own_form hl; rfl
  have hvs1 : vs.oneCell' = true := by obtain ⟨a, n, c, rfl⟩ := own_form hsb; rfl
  have hone := mcells_one m hvl1 hvs1
  obtain ⟨U, hU⟩ : ∃ U, U = mcells m vl vs := ⟨_, rfl⟩
  have hUs : U.size = 25 := by rw [hU]; rfl
  rw [← hU] at hone hmore ⊢
  have HU := Lib.hid hU
  clear hU
  go_enter Tryd.func33, Tryd.ntmps33
  go_wp2_with fail
  have hS0 := SetW.start U w
  change Calls Tryd.prog _ _ ((w.alloc (Obj.cells U 25)).alloc (Obj.cells zeroU 25)) _
  generalize (w.alloc (Obj.cells U 25)).alloc (Obj.cells zeroU 25) = W0 at hS0 ⊢
  have hz0 : w.heap.size + 1 < W0.heap.size := (Array.getElem?_eq_some_iff.1 hS0.res).1
  refine (Tryd.value_w s W0 hs (env_below henv hw hS0.below) (by omega)).mono ?_
  rintro e W1 ⟨rfl, hb1⟩
  have hS1 := hS0.next hb1
  have hz1 := hb1.size
  clear hb1 hS0
  go_wp2_with fail
  refine (Tryd.rbytes_w s W1 hs (env_below henv hw hS1.below) (by omega)).mono ?_
  rintro e W2 ⟨rfl, hb2⟩
  have HS := Lib.hid (hS1.next hb2)
  have hz2 := hb2.size
  have hz3 : w.heap.size + 1 < W2.heap.size := by omega
  have hc : ∀ o, o < 25 → W2.cell? ⟨w.heap.size, o, none⟩ = some (U.getD o undef) := fun o ho => by
    rw [Lib.cell_of_heap HS.out.box, Array.getD_eq_getD_getElem?, Array.getElem?_eq_getElem (by omega)]; rfl
  have hz : ∀ o, W2.frozen? ⟨w.heap.size, o, none⟩ = false := fun o => Lib.frozen_of_heap HS.out.box o
  have HM := Lib.hid hmore
  have HL := Lib.hid hl
  have HB := Lib.hid hsb
  have HO := Lib.hid hone
  clear hb2 hS1 hz0 hz1 hz2 hmore hl hsb hone
  repeat' (first | (with_reducible apply gateD (N := 70); · rfl) | (with_reducible apply gateD (N := 14); · rfl) | go_values | go_skip | go_guarded | go_step | go_upon | go_back | (simp only [Int.not_lt, Int.not_le] at *; go_simp))
  iterate 13
    · rename_i K1 hk1 K hk
      refine Lib.hid ?_
      refine wp_load_row 25 (.tmp 3) rfl w.heap.size rfl 25 _ _ _ (heap_setCell_same W2 w.heap.size _ U _ _ HS.out.box) Tryd.underlying25 rfl (by rw [Array.size_setIfInBounds, hUs]; kernel_rfl) ?_
      refine hk _ _ ?_
      refine wpList_store_row rfl 25 (.tmp 6) (.tmp 70) rfl (w.heap.size + 1) _ rfl rfl 25 zeroU ((heap_setCell_other _ _ _ _ (by simp)).trans HS.out.res) (by rw [Array.size_setIfInBounds, hUs]; kernel_rfl) (by rw [Array.size_setIfInBounds, hUs]; rfl) (one_set HO.out rfl) ?_
      refine wpList_nil ?_
      refine hk1 _ _ ?_
      refine wp_ret ?_
      refine bodyPost_ret (results_cell_row rfl _ _ (w.heap.size + 1) 25 _ _ _ (by rfl) (row_set ((heap_setCell_other _ _ _ _ (by simp)).trans HS.out.res)) Tryd.underlying25 rfl (by rw [Array.size_setIfInBounds, hUs]; kernel_rfl)) rfl ?_
      have hq := eq_of_beq (a := nm) (by assumption)
      subst hq
      exact set_fin HS.out HL.out HB.out (m' := setQ m _ s) (by rw [HU.out]; rfl) rfl rfl
  rename_i K1 hk1 K hk
  refine Lib.hid ?_
  refine wp_load_row 25 (.tmp 3) rfl w.heap.size rfl 25 _ _ _ HS.out.box Tryd.underlying25 rfl (by rw [hUs]; kernel_rfl) ?_
  refine hk _ _ ?_
  go_wp2_with fail
  rename_i K2 hk2
  refine (HM.out W2 HS.out.below).mono ?_
  rintro e W3 ⟨vl', vs', rfl, o1, o2, kp⟩
  have hl2 := own_below HL.out HS.out.below
  have hs2 := own_below HB.out HS.out.below
  have hr3 : W3.heap[w.heap.size + 1]? = some (.cells zeroU 25 (0, 0)) := (kp.block _ hz3 (own_at_lt HL.out (by omega)) (own_at_lt HB.out (by omega))).trans HS.out.res
  dsimp only
  refine hk2 _ _ ?_
  have h1 : vl'.oneCell' = true := by obtain ⟨a, n, c, rfl⟩ := own_form o1; rfl
  have h2 : vs'.oneCell' = true := by obtain ⟨a, n, c, rfl⟩ := own_form o2; rfl
  refine wpList_store_row rfl 25 (.tmp 6) (.tmp 17) rfl (w.heap.size + 1) (mcells (moreQ m nm s) vl' vs') rfl rfl 25 zeroU hr3 (size_mcells _ _ _) rfl (mcells_one _ h1 h2) ?_
  refine wpList_nil ?_
  refine hk1 _ _ ?_
  refine wp_ret ?_
  refine bodyPost_ret (results_cell_row rfl _ _ (w.heap.size + 1) 25 _ _ _ (by rfl) (row_set hr3) Tryd.underlying25 rfl (size_mcells _ _ _)) rfl ?_
  have hq : setQ m nm s = moreQ m nm s := by
    unfold setQ
    iterate 13 rw [if_neg (ne_bq (by assumption))]
  rw [hq]
  exact ⟨vl', vs', rfl, own_but o1 hr3 (by decide) (But.row _ _), own_but o2 hr3 (by decide) (But.row _ _), ((Keeps.of HS.out.below).trans kp).row (by omega) _⟩
end Go.Proofs
