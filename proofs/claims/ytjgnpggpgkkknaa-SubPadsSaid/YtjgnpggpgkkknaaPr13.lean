-- Written by wip/tools/xprint.py of this repo over the kit's printer, out of the translation. Lean checks it.
import Derived.Test.YtjgnpggpgkkknaaPr0
namespace Go.Proofs.Ytjgnpggpgkkknaa.Pr
open Go.RowKit Go.Proofs.YtjgnpggpgkkknaaW.PrintWords Go.Proofs.YtjgnpggpgkkknaaW.PrintLast
set_option linter.unusedVariables false
set_option linter.unusedSimpArgs false

/-! ### roadbookref07_Few: function 49 -/
mutual
def roadbookref07_Few.j0 : Nat → Bool → Int → Int → Int → ByteArray → Int → Int → ByteArray → Int → Int → ByteArray → Int → ByteArray → Int → Int → Int → Int → Int → Int → Int → ByteArray → ByteArray → List (S88) → Int → ByteArray → List (S78) → Option (Bool)
  | 0, _, _, _, _, _, _, _, _, _, _, _, _, _, _, _, _, _, _, _, _, _, _, _, _, _, _ => none
  | k + 1, x50, x412000, x412001, x412002, x412003, x412004, x412005, x412006, x412007, x412008, x412009, x412010, x412011, x412012, x412013, x412014, x412015, x412016, x412017, x412018, x412019, x412020, x412021, x412022, x412023, x412024 => if x50 = true then (some false) else (roadbookref07_Few.l0 k 0 x412000 x412001 x412002 x412003 x412004 x412005 x412006 x412007 x412008 x412009 x412010 x412011 x412012 x412013 x412014 x412015 x412016 x412017 x412018 x412019 x412020 x412021 x412022 x412023 x412024)
def roadbookref07_Few.l0 : Nat → Int → Int → Int → Int → ByteArray → Int → Int → ByteArray → Int → Int → ByteArray → Int → ByteArray → Int → Int → Int → Int → Int → Int → Int → ByteArray → ByteArray → List (S88) → Int → ByteArray → List (S78) → Option (Bool)
  | 0, _, _, _, _, _, _, _, _, _, _, _, _, _, _, _, _, _, _, _, _, _, _, _, _, _, _ => none
  | k + 1, x3, x412000, x412001, x412002, x412003, x412004, x412005, x412006, x412007, x412008, x412009, x412010, x412011, x412012, x412013, x412014, x412015, x412016, x412017, x412018, x412019, x412020, x412021, x412022, x412023, x412024 => if x3 < (x412021.length : Int) then (if 0 ≤ x3 then (if (((rd_T88 x412021 x3).f0).size : Int) > 50 then (some false) else (roadbookref07_Few.l0 k (wrap64 (x3 + 1)) x412000 x412001 x412002 x412003 x412004 x412005 x412006 x412007 x412008 x412009 x412010 x412011 x412012 x412013 x412014 x412015 x412016 x412017 x412018 x412019 x412020 x412021 x412022 x412023 x412024)) else (none)) else (roadbookref07_Few.l1 k 0 x412000 x412001 x412002 x412003 x412004 x412005 x412006 x412007 x412008 x412009 x412010 x412011 x412012 x412013 x412014 x412015 x412016 x412017 x412018 x412019 x412020 x412021 x412022 x412023 x412024)
def roadbookref07_Few.l1 : Nat → Int → Int → Int → Int → ByteArray → Int → Int → ByteArray → Int → Int → ByteArray → Int → ByteArray → Int → Int → Int → Int → Int → Int → Int → ByteArray → ByteArray → List (S88) → Int → ByteArray → List (S78) → Option (Bool)
  | 0, _, _, _, _, _, _, _, _, _, _, _, _, _, _, _, _, _, _, _, _, _, _, _, _, _, _ => none
  | k + 1, x4, x412000, x412001, x412002, x412003, x412004, x412005, x412006, x412007, x412008, x412009, x412010, x412011, x412012, x412013, x412014, x412015, x412016, x412017, x412018, x412019, x412020, x412021, x412022, x412023, x412024 => if x4 < (x412024.length : Int) then (if 0 ≤ x4 then (if (((rd_T78 x412024 x4).f1).size : Int) > 300 then (some false) else (roadbookref07_Few.l1 k (wrap64 (x4 + 1)) x412000 x412001 x412002 x412003 x412004 x412005 x412006 x412007 x412008 x412009 x412010 x412011 x412012 x412013 x412014 x412015 x412016 x412017 x412018 x412019 x412020 x412021 x412022 x412023 x412024)) else (none)) else (some true)
end
def roadbookref07_Few.f (k : Nat) (a0_0 : Int) (a0_1 : Int) (a0_2 : Int) (a0_3 : ByteArray) (a0_4 : Int) (a0_5 : Int) (a0_6 : ByteArray) (a0_7 : Int) (a0_8 : Int) (a0_9 : ByteArray) (a0_10 : Int) (a0_11 : ByteArray) (a0_12 : Int) (a0_13 : Int) (a0_14 : Int) (a0_15 : Int) (a0_16 : Int) (a0_17 : Int) (a0_18 : Int) (a0_19 : ByteArray) (a0_20 : ByteArray) (l0_21 : List (S88)) (a0_22 : Int) (a0_23 : ByteArray) (l0_24 : List (S78)) : Option (Bool) := if (l0_21.length : Int) > 300 then (roadbookref07_Few.j0 k true a0_0 a0_1 a0_2 a0_3 a0_4 a0_5 a0_6 a0_7 a0_8 a0_9 a0_10 a0_11 a0_12 a0_13 a0_14 a0_15 a0_16 a0_17 a0_18 a0_19 a0_20 l0_21 a0_22 a0_23 l0_24) else (if (l0_24.length : Int) > 60 then (roadbookref07_Few.j0 k true a0_0 a0_1 a0_2 a0_3 a0_4 a0_5 a0_6 a0_7 a0_8 a0_9 a0_10 a0_11 a0_12 a0_13 a0_14 a0_15 a0_16 a0_17 a0_18 a0_19 a0_20 l0_21 a0_22 a0_23 l0_24) else (if (wrap64 ((a0_3.size : Int) + (a0_6.size : Int))) > 200 then (roadbookref07_Few.j0 k true a0_0 a0_1 a0_2 a0_3 a0_4 a0_5 a0_6 a0_7 a0_8 a0_9 a0_10 a0_11 a0_12 a0_13 a0_14 a0_15 a0_16 a0_17 a0_18 a0_19 a0_20 l0_21 a0_22 a0_23 l0_24) else (if (wrap64 ((a0_9.size : Int) + (a0_11.size : Int))) > 200 then (roadbookref07_Few.j0 k true a0_0 a0_1 a0_2 a0_3 a0_4 a0_5 a0_6 a0_7 a0_8 a0_9 a0_10 a0_11 a0_12 a0_13 a0_14 a0_15 a0_16 a0_17 a0_18 a0_19 a0_20 l0_21 a0_22 a0_23 l0_24) else (if (wrap64 ((a0_19.size : Int) + (a0_20.size : Int))) > 200 then (roadbookref07_Few.j0 k true a0_0 a0_1 a0_2 a0_3 a0_4 a0_5 a0_6 a0_7 a0_8 a0_9 a0_10 a0_11 a0_12 a0_13 a0_14 a0_15 a0_16 a0_17 a0_18 a0_19 a0_20 l0_21 a0_22 a0_23 l0_24) else (roadbookref07_Few.j0 k (decide ((a0_23.size : Int) > 300)) a0_0 a0_1 a0_2 a0_3 a0_4 a0_5 a0_6 a0_7 a0_8 a0_9 a0_10 a0_11 a0_12 a0_13 a0_14 a0_15 a0_16 a0_17 a0_18 a0_19 a0_20 l0_21 a0_22 a0_23 l0_24)))))
theorem roadbookref07_Few.mono_l : ∀ k, (∀ y0 y1 y2 y3 y4 y5 y6 y7 y8 y9 y10 y11 y12 y13 y14 y15 y16 y17 y18 y19 y20 y21 y22 y23 y24 y25, LeO (roadbookref07_Few.j0 k y0 y1 y2 y3 y4 y5 y6 y7 y8 y9 y10 y11 y12 y13 y14 y15 y16 y17 y18 y19 y20 y21 y22 y23 y24 y25) (roadbookref07_Few.j0 (k + 1) y0 y1 y2 y3 y4 y5 y6 y7 y8 y9 y10 y11 y12 y13 y14 y15 y16 y17 y18 y19 y20 y21 y22 y23 y24 y25)) ∧ (∀ y0 y1 y2 y3 y4 y5 y6 y7 y8 y9 y10 y11 y12 y13 y14 y15 y16 y17 y18 y19 y20 y21 y22 y23 y24 y25, LeO (roadbookref07_Few.l0 k y0 y1 y2 y3 y4 y5 y6 y7 y8 y9 y10 y11 y12 y13 y14 y15 y16 y17 y18 y19 y20 y21 y22 y23 y24 y25) (roadbookref07_Few.l0 (k + 1) y0 y1 y2 y3 y4 y5 y6 y7 y8 y9 y10 y11 y12 y13 y14 y15 y16 y17 y18 y19 y20 y21 y22 y23 y24 y25)) ∧ (∀ y0 y1 y2 y3 y4 y5 y6 y7 y8 y9 y10 y11 y12 y13 y14 y15 y16 y17 y18 y19 y20 y21 y22 y23 y24 y25, LeO (roadbookref07_Few.l1 k y0 y1 y2 y3 y4 y5 y6 y7 y8 y9 y10 y11 y12 y13 y14 y15 y16 y17 y18 y19 y20 y21 y22 y23 y24 y25) (roadbookref07_Few.l1 (k + 1) y0 y1 y2 y3 y4 y5 y6 y7 y8 y9 y10 y11 y12 y13 y14 y15 y16 y17 y18 y19 y20 y21 y22 y23 y24 y25))
  | 0 => ⟨fun _ _ _ _ _ _ _ _ _ _ _ _ _ _ _ _ _ _ _ _ _ _ _ _ _ _ r h => by simp [roadbookref07_Few.j0] at h, fun _ _ _ _ _ _ _ _ _ _ _ _ _ _ _ _ _ _ _ _ _ _ _ _ _ _ r h => by simp [roadbookref07_Few.l0] at h, fun _ _ _ _ _ _ _ _ _ _ _ _ _ _ _ _ _ _ _ _ _ _ _ _ _ _ r h => by simp [roadbookref07_Few.l1] at h⟩
  | k + 1 => by
    obtain ⟨ih0, ih1, ih2⟩ := roadbookref07_Few.mono_l k
    refine ⟨?_, ?_, ?_⟩
    · intro y0 y1 y2 y3 y4 y5 y6 y7 y8 y9 y10 y11 y12 y13 y14 y15 y16 y17 y18 y19 y20 y21 y22 y23 y24 y25
      unfold roadbookref07_Few.j0
      repeat' first
      | (with_reducible exact ih0 _ _ _ _ _ _ _ _ _ _ _ _ _ _ _ _ _ _ _ _ _ _ _ _ _ _)
      | (with_reducible exact ih1 _ _ _ _ _ _ _ _ _ _ _ _ _ _ _ _ _ _ _ _ _ _ _ _ _ _)
      | (with_reducible exact ih2 _ _ _ _ _ _ _ _ _ _ _ _ _ _ _ _ _ _ _ _ _ _ _ _ _ _)
      | (with_reducible exact LeO.refl _)
      | (with_reducible exact LeO.none _)
      | (with_reducible refine LeO.ite ?_ ?_)
      | (with_reducible refine LeO.bind ?_ (fun _ => ?_))
      | exact ih0 _ _ _ _ _ _ _ _ _ _ _ _ _ _ _ _ _ _ _ _ _ _ _ _ _ _
      | exact ih1 _ _ _ _ _ _ _ _ _ _ _ _ _ _ _ _ _ _ _ _ _ _ _ _ _ _
      | exact ih2 _ _ _ _ _ _ _ _ _ _ _ _ _ _ _ _ _ _ _ _ _ _ _ _ _ _
      | exact LeO.none _
      | refine LeO.ite ?_ ?_
      | refine LeO.bind ?_ (fun _ => ?_)
    · intro y0 y1 y2 y3 y4 y5 y6 y7 y8 y9 y10 y11 y12 y13 y14 y15 y16 y17 y18 y19 y20 y21 y22 y23 y24 y25
      unfold roadbookref07_Few.l0
      repeat' first
      | (with_reducible exact ih0 _ _ _ _ _ _ _ _ _ _ _ _ _ _ _ _ _ _ _ _ _ _ _ _ _ _)
      | (with_reducible exact ih1 _ _ _ _ _ _ _ _ _ _ _ _ _ _ _ _ _ _ _ _ _ _ _ _ _ _)
      | (with_reducible exact ih2 _ _ _ _ _ _ _ _ _ _ _ _ _ _ _ _ _ _ _ _ _ _ _ _ _ _)
      | (with_reducible exact LeO.refl _)
      | (with_reducible exact LeO.none _)
      | (with_reducible refine LeO.ite ?_ ?_)
      | (with_reducible refine LeO.bind ?_ (fun _ => ?_))
      | exact ih0 _ _ _ _ _ _ _ _ _ _ _ _ _ _ _ _ _ _ _ _ _ _ _ _ _ _
      | exact ih1 _ _ _ _ _ _ _ _ _ _ _ _ _ _ _ _ _ _ _ _ _ _ _ _ _ _
      | exact ih2 _ _ _ _ _ _ _ _ _ _ _ _ _ _ _ _ _ _ _ _ _ _ _ _ _ _
      | exact LeO.none _
      | refine LeO.ite ?_ ?_
      | refine LeO.bind ?_ (fun _ => ?_)
    · intro y0 y1 y2 y3 y4 y5 y6 y7 y8 y9 y10 y11 y12 y13 y14 y15 y16 y17 y18 y19 y20 y21 y22 y23 y24 y25
      unfold roadbookref07_Few.l1
      repeat' first
      | (with_reducible exact ih0 _ _ _ _ _ _ _ _ _ _ _ _ _ _ _ _ _ _ _ _ _ _ _ _ _ _)
      | (with_reducible exact ih1 _ _ _ _ _ _ _ _ _ _ _ _ _ _ _ _ _ _ _ _ _ _ _ _ _ _)
      | (with_reducible exact ih2 _ _ _ _ _ _ _ _ _ _ _ _ _ _ _ _ _ _ _ _ _ _ _ _ _ _)
      | (with_reducible exact LeO.refl _)
      | (with_reducible exact LeO.none _)
      | (with_reducible refine LeO.ite ?_ ?_)
      | (with_reducible refine LeO.bind ?_ (fun _ => ?_))
      | exact ih0 _ _ _ _ _ _ _ _ _ _ _ _ _ _ _ _ _ _ _ _ _ _ _ _ _ _
      | exact ih1 _ _ _ _ _ _ _ _ _ _ _ _ _ _ _ _ _ _ _ _ _ _ _ _ _ _
      | exact ih2 _ _ _ _ _ _ _ _ _ _ _ _ _ _ _ _ _ _ _ _ _ _ _ _ _ _
      | exact LeO.none _
      | refine LeO.ite ?_ ?_
      | refine LeO.bind ?_ (fun _ => ?_)
theorem roadbookref07_Few.mono : ∀ a0 a1 a2 a3 a4 a5 a6 a7 a8 a9 a10 a11 a12 a13 a14 a15 a16 a17 a18 a19 a20 a21 a22 a23 a24 k, LeO (roadbookref07_Few.f k a0 a1 a2 a3 a4 a5 a6 a7 a8 a9 a10 a11 a12 a13 a14 a15 a16 a17 a18 a19 a20 a21 a22 a23 a24) (roadbookref07_Few.f (k + 1) a0 a1 a2 a3 a4 a5 a6 a7 a8 a9 a10 a11 a12 a13 a14 a15 a16 a17 a18 a19 a20 a21 a22 a23 a24) := by
  intro a0 a1 a2 a3 a4 a5 a6 a7 a8 a9 a10 a11 a12 a13 a14 a15 a16 a17 a18 a19 a20 a21 a22 a23 a24 k
  obtain ⟨ih0, ih1, ih2⟩ := roadbookref07_Few.mono_l k
  unfold roadbookref07_Few.f
  repeat' first
      | (with_reducible exact ih0 _ _ _ _ _ _ _ _ _ _ _ _ _ _ _ _ _ _ _ _ _ _ _ _ _ _)
      | (with_reducible exact ih1 _ _ _ _ _ _ _ _ _ _ _ _ _ _ _ _ _ _ _ _ _ _ _ _ _ _)
      | (with_reducible exact ih2 _ _ _ _ _ _ _ _ _ _ _ _ _ _ _ _ _ _ _ _ _ _ _ _ _ _)
      | (with_reducible exact LeO.refl _)
      | (with_reducible exact LeO.none _)
      | (with_reducible refine LeO.ite ?_ ?_)
      | (with_reducible refine LeO.bind ?_ (fun _ => ?_))
      | exact ih0 _ _ _ _ _ _ _ _ _ _ _ _ _ _ _ _ _ _ _ _ _ _ _ _ _ _
      | exact ih1 _ _ _ _ _ _ _ _ _ _ _ _ _ _ _ _ _ _ _ _ _ _ _ _ _ _
      | exact ih2 _ _ _ _ _ _ _ _ _ _ _ _ _ _ _ _ _ _ _ _ _ _ _ _ _ _
      | exact LeO.none _
      | refine LeO.ite ?_ ?_
      | refine LeO.bind ?_ (fun _ => ?_)
set_option maxHeartbeats 8000000 in
set_option maxRecDepth 100000 in
theorem roadbookref07_Few.calls (k : Nat) (a0_0 : Int) (a0_1 : Int) (a0_2 : Int) (a0_3 : ByteArray) (a0_4 : Int) (a0_5 : Int) (a0_6 : ByteArray) (a0_7 : Int) (a0_8 : Int) (a0_9 : ByteArray) (a0_10 : Int) (a0_11 : ByteArray) (a0_12 : Int) (a0_13 : Int) (a0_14 : Int) (a0_15 : Int) (a0_16 : Int) (a0_17 : Int) (a0_18 : Int) (a0_19 : ByteArray) (a0_20 : ByteArray) (A0_21 : Option Addr) (c0_21 : Nat) (l0_21 : List (S88)) (a0_22 : Int) (a0_23 : ByteArray) (A0_24 : Option Addr) (c0_24 : Nat) (l0_24 : List (S78)) (r : Bool) (w : World) (hr0_21 : Kd.C k88 w A0_21 l0_21.length l0_21) (hc0_21 : l0_21.length ≤ c0_21) (hr0_24 : Kd.C k78 w A0_24 l0_24.length l0_24) (hc0_24 : l0_24.length ≤ c0_24) (h : roadbookref07_Few.f k a0_0 a0_1 a0_2 a0_3 a0_4 a0_5 a0_6 a0_7 a0_8 a0_9 a0_10 a0_11 a0_12 a0_13 a0_14 a0_15 a0_16 a0_17 a0_18 a0_19 a0_20 l0_21 a0_22 a0_23 l0_24 = some r) :
    Calls Try.prog 49 #[.agg #[.int .i64 a0_0, .int .i64 a0_1, .int .i64 a0_2, .string a0_3, .int .i64 a0_4, .int .i64 a0_5, .string a0_6, .int .i64 a0_7, .int .i64 a0_8, .string a0_9, .int .i64 a0_10, .string a0_11, .int .i64 a0_12, .int .i64 a0_13, .int .i64 a0_14, .int .i64 a0_15, .int .i64 a0_16, .int .i64 a0_17, .int .i64 a0_18, .string a0_19, .string a0_20, .slice A0_21 l0_21.length c0_21, .int .i64 a0_22, .string a0_23, .slice A0_24 l0_24.length c0_24]] w fun e w' => e = .returned (.bool r) ∧ Below w.heap.size w w' := by
  have hu76 := Try.underlying76
  have HR0_21 := Aside0.mk hr0_21
  have HC0_21 := Aside0.mk hc0_21
  clear hr0_21 hc0_21
  have HR0_24 := Aside0.mk hr0_24
  have HC0_24 := Aside0.mk hc0_24
  clear hr0_24 hc0_24
  have HB := Aside0.mk (Below.refl w.heap.size w)
  have H : (if (l0_21.length : Int) > 300 then (roadbookref07_Few.j0 k true a0_0 a0_1 a0_2 a0_3 a0_4 a0_5 a0_6 a0_7 a0_8 a0_9 a0_10 a0_11 a0_12 a0_13 a0_14 a0_15 a0_16 a0_17 a0_18 a0_19 a0_20 l0_21 a0_22 a0_23 l0_24) else (if (l0_24.length : Int) > 60 then (roadbookref07_Few.j0 k true a0_0 a0_1 a0_2 a0_3 a0_4 a0_5 a0_6 a0_7 a0_8 a0_9 a0_10 a0_11 a0_12 a0_13 a0_14 a0_15 a0_16 a0_17 a0_18 a0_19 a0_20 l0_21 a0_22 a0_23 l0_24) else (if (wrap64 ((a0_3.size : Int) + (a0_6.size : Int))) > 200 then (roadbookref07_Few.j0 k true a0_0 a0_1 a0_2 a0_3 a0_4 a0_5 a0_6 a0_7 a0_8 a0_9 a0_10 a0_11 a0_12 a0_13 a0_14 a0_15 a0_16 a0_17 a0_18 a0_19 a0_20 l0_21 a0_22 a0_23 l0_24) else (if (wrap64 ((a0_9.size : Int) + (a0_11.size : Int))) > 200 then (roadbookref07_Few.j0 k true a0_0 a0_1 a0_2 a0_3 a0_4 a0_5 a0_6 a0_7 a0_8 a0_9 a0_10 a0_11 a0_12 a0_13 a0_14 a0_15 a0_16 a0_17 a0_18 a0_19 a0_20 l0_21 a0_22 a0_23 l0_24) else (if (wrap64 ((a0_19.size : Int) + (a0_20.size : Int))) > 200 then (roadbookref07_Few.j0 k true a0_0 a0_1 a0_2 a0_3 a0_4 a0_5 a0_6 a0_7 a0_8 a0_9 a0_10 a0_11 a0_12 a0_13 a0_14 a0_15 a0_16 a0_17 a0_18 a0_19 a0_20 l0_21 a0_22 a0_23 l0_24) else (roadbookref07_Few.j0 k (decide ((a0_23.size : Int) > 300)) a0_0 a0_1 a0_2 a0_3 a0_4 a0_5 a0_6 a0_7 a0_8 a0_9 a0_10 a0_11 a0_12 a0_13 a0_14 a0_15 a0_16 a0_17 a0_18 a0_19 a0_20 l0_21 a0_22 a0_23 l0_24)))))) = some r := h
  clear h
  have HC2 := Aside0.mk H
  clear H
  go_enter Try.func49, Try.ntmps49
  go_upto_region 1 with (first | ((with_reducible refine gate_dst (N := 1) rfl ?_); refine box_event ?hg (N := 1) ?hd (cs := #[.int .i64 a0_0, .int .i64 a0_1, .int .i64 a0_2, .string a0_3, .int .i64 a0_4, .int .i64 a0_5, .string a0_6, .int .i64 a0_7, .int .i64 a0_8, .string a0_9, .int .i64 a0_10, .string a0_11, .int .i64 a0_12, .int .i64 a0_13, .int .i64 a0_14, .int .i64 a0_15, .int .i64 a0_16, .int .i64 a0_17, .int .i64 a0_18, .string a0_19, .string a0_20, .slice A0_21 l0_21.length c0_21, .int .i64 a0_22, .string a0_23, .slice A0_24 l0_24.length c0_24]) (t := 76) ?hr ?_; (case hd => rfl); (case hg => rfl); (case hr => first | (go_simp; done) | (go_simp; rfl)); intro gb411 hg w3 hbox hb; have n0_ := Aside0.mk (below_step (bel) hb); have n1_ := Aside0.mk (hbox); have n2_ := Aside0.mk ((by rw [hg]; exact bsz : w.heap.size ≤ gb411)); have n3_ := Aside0.mk ((by rw [hg]; exact bsz : w.heap.size ≤ gb411)); clear HB; have HB := n0_; have BK411 := n1_; have GW411 := n2_; have GE411 := n3_; clear n0_ n1_ n2_ n3_; clear hb hbox hg))
  (try simp only [Act.put, List.setIfInBounds_toArray, List.set_cons_zero, List.set_cons_succ])
  go_cut [50] (fun v50 wc => ∃ (kq : Nat) (x50_1 : Bool), v50 = .bool x50_1 ∧ Aside0 (roadbookref07_Few.j0 kq x50_1 a0_0 a0_1 a0_2 a0_3 a0_4 a0_5 a0_6 a0_7 a0_8 a0_9 a0_10 a0_11 a0_12 a0_13 a0_14 a0_15 a0_16 a0_17 a0_18 a0_19 a0_20 l0_21 a0_22 a0_23 l0_24 = some r) ∧ Aside0 (kq ≤ k) ∧ Aside0 (wc.heap[gb411]? = some (.cells #[.int .i64 a0_0, .int .i64 a0_1, .int .i64 a0_2, .string a0_3, .int .i64 a0_4, .int .i64 a0_5, .string a0_6, .int .i64 a0_7, .int .i64 a0_8, .string a0_9, .int .i64 a0_10, .string a0_11, .int .i64 a0_12, .int .i64 a0_13, .int .i64 a0_14, .int .i64 a0_15, .int .i64 a0_16, .int .i64 a0_17, .int .i64 a0_18, .string a0_19, .string a0_20, (.slice A0_21 l0_21.length c0_21), .int .i64 a0_22, .string a0_23, (.slice A0_24 l0_24.length c0_24)] 76 (0, 0))) ∧ Aside0 (Below w.heap.size w wc))
  case first =>
    have H := HC2.out
    clear HC2
    by_cases c4 : (l0_21.length : Int) > 300
    · rw [if_pos c4] at H
      have c4b0 : decide (300 < (l0_21.length : Int)) = true := decide_eq_true c4
      have c4b1 : decide (300 < l0_21.length) = true := decide_eq_true (by omega)
      clear c4
      (first | rw [c4b0] | (simp only [i64_w, i32_w]; rw [c4b0]) | skip)
      have H' := Aside0.mk H
      clear H
      have hcz5_21 := cl21 BK411.out
      have hfz5_21 := blk_frozen BK411.out 21
      go_wp2
      go_meet
      case rel => exact ⟨_, (true), rfS, H', ⟨by first | omega | exact Nat.le_refl _⟩, ⟨blk_below BK411.out bll⟩, ⟨bel⟩⟩
    · rw [if_neg c4] at H
      have c4b0 : decide (300 < (l0_21.length : Int)) = false := decide_eq_false c4
      have c4b1 : decide (300 < l0_21.length) = false := decide_eq_false (by omega)
      clear c4
      (first | rw [c4b0] | (simp only [i64_w, i32_w]; rw [c4b0]) | skip)
      by_cases c6 : (l0_24.length : Int) > 60
      · rw [if_pos c6] at H
        have c6b0 : decide (60 < (l0_24.length : Int)) = true := decide_eq_true c6
        have c6b1 : decide (60 < l0_24.length) = true := decide_eq_true (by omega)
        clear c6
        have H' := Aside0.mk H
        clear H
        have hcz7_21 := cl21 BK411.out
        have hfz7_21 := blk_frozen BK411.out 21
        have hcz8_24 := cl24 BK411.out
        have hfz8_24 := blk_frozen BK411.out 24
        go_wp2
        go_meet
        case rel => exact ⟨_, (true), rfS, H', ⟨by first | omega | exact Nat.le_refl _⟩, ⟨blk_below BK411.out bll⟩, ⟨bel⟩⟩
      · rw [if_neg c6] at H
        have c6b0 : decide (60 < (l0_24.length : Int)) = false := decide_eq_false c6
        have c6b1 : decide (60 < l0_24.length) = false := decide_eq_false (by omega)
        clear c6
        by_cases c9 : (wrap64 ((a0_3.size : Int) + (a0_6.size : Int))) > 200
        · rw [if_pos c9] at H
          have c9b0 : decide (200 < (wrap64 ((a0_3.size : Int) + (a0_6.size : Int)))) = true := decide_eq_true c9
          clear c9
          have H' := Aside0.mk H
          clear H
          have hcz10_21 := cl21 BK411.out
          have hfz10_21 := blk_frozen BK411.out 21
          have hcz11_24 := cl24 BK411.out
          have hfz11_24 := blk_frozen BK411.out 24
          have hcz12_3 := cl3 BK411.out
          have hfz12_3 := blk_frozen BK411.out 3
          have hcz13_6 := cl6 BK411.out
          have hfz13_6 := blk_frozen BK411.out 6
          go_wp2
          go_meet
          case rel => exact ⟨_, (true), rfS, H', ⟨by first | omega | exact Nat.le_refl _⟩, ⟨blk_below BK411.out bll⟩, ⟨bel⟩⟩
        · rw [if_neg c9] at H
          have c9b0 : decide (200 < (wrap64 ((a0_3.size : Int) + (a0_6.size : Int)))) = false := decide_eq_false c9
          clear c9
          by_cases c14 : (wrap64 ((a0_9.size : Int) + (a0_11.size : Int))) > 200
          · rw [if_pos c14] at H
            have c14b0 : decide (200 < (wrap64 ((a0_9.size : Int) + (a0_11.size : Int)))) = true := decide_eq_true c14
            clear c14
            have H' := Aside0.mk H
            clear H
            have hcz15_21 := cl21 BK411.out
            have hfz15_21 := blk_frozen BK411.out 21
            have hcz16_24 := cl24 BK411.out
            have hfz16_24 := blk_frozen BK411.out 24
            have hcz17_3 := cl3 BK411.out
            have hfz17_3 := blk_frozen BK411.out 3
            have hcz18_6 := cl6 BK411.out
            have hfz18_6 := blk_frozen BK411.out 6
            have hcz19_9 := cl9 BK411.out
            have hfz19_9 := blk_frozen BK411.out 9
            have hcz20_11 := cl11 BK411.out
            have hfz20_11 := blk_frozen BK411.out 11
            go_wp2
            go_meet
            case rel => exact ⟨_, (true), rfS, H', ⟨by first | omega | exact Nat.le_refl _⟩, ⟨blk_below BK411.out bll⟩, ⟨bel⟩⟩
          · rw [if_neg c14] at H
            have c14b0 : decide (200 < (wrap64 ((a0_9.size : Int) + (a0_11.size : Int)))) = false := decide_eq_false c14
            clear c14
            by_cases c21 : (wrap64 ((a0_19.size : Int) + (a0_20.size : Int))) > 200
            · rw [if_pos c21] at H
              have c21b0 : decide (200 < (wrap64 ((a0_19.size : Int) + (a0_20.size : Int)))) = true := decide_eq_true c21
              clear c21
              have H' := Aside0.mk H
              clear H
              have hcz22_21 := cl21 BK411.out
              have hfz22_21 := blk_frozen BK411.out 21
              have hcz23_24 := cl24 BK411.out
              have hfz23_24 := blk_frozen BK411.out 24
              have hcz24_3 := cl3 BK411.out
              have hfz24_3 := blk_frozen BK411.out 3
              have hcz25_6 := cl6 BK411.out
              have hfz25_6 := blk_frozen BK411.out 6
              have hcz26_9 := cl9 BK411.out
              have hfz26_9 := blk_frozen BK411.out 9
              have hcz27_11 := cl11 BK411.out
              have hfz27_11 := blk_frozen BK411.out 11
              have hcz28_19 := cl19 BK411.out
              have hfz28_19 := blk_frozen BK411.out 19
              have hcz29_20 := cl20 BK411.out
              have hfz29_20 := blk_frozen BK411.out 20
              go_wp2
              go_meet
              case rel => exact ⟨_, (true), rfS, H', ⟨by first | omega | exact Nat.le_refl _⟩, ⟨blk_below BK411.out bll⟩, ⟨bel⟩⟩
            · rw [if_neg c21] at H
              have c21b0 : decide (200 < (wrap64 ((a0_19.size : Int) + (a0_20.size : Int)))) = false := decide_eq_false c21
              clear c21
              have H' := Aside0.mk H
              clear H
              have hcz30_21 := cl21 BK411.out
              have hfz30_21 := blk_frozen BK411.out 21
              have hcz31_24 := cl24 BK411.out
              have hfz31_24 := blk_frozen BK411.out 24
              have hcz32_3 := cl3 BK411.out
              have hfz32_3 := blk_frozen BK411.out 3
              have hcz33_6 := cl6 BK411.out
              have hfz33_6 := blk_frozen BK411.out 6
              have hcz34_9 := cl9 BK411.out
              have hfz34_9 := blk_frozen BK411.out 9
              have hcz35_11 := cl11 BK411.out
              have hfz35_11 := blk_frozen BK411.out 11
              have hcz36_19 := cl19 BK411.out
              have hfz36_19 := blk_frozen BK411.out 19
              have hcz37_20 := cl20 BK411.out
              have hfz37_20 := blk_frozen BK411.out 20
              have hcz38_23 := cl23 BK411.out
              have hfz38_23 := blk_frozen BK411.out 23
              go_wp2
              go_meet
              case rel => exact ⟨_, (decide ((a0_23.size : Int) > 300)), rfS, H', ⟨by first | omega | exact Nat.le_refl _⟩, ⟨blk_below BK411.out bll⟩, ⟨bel⟩⟩
  case rest =>
    clear HC2
    try clear c4
    try clear c4b0
    try clear c4b1
    try clear c6
    try clear c6b0
    try clear c6b1
    try clear c9
    try clear c9b0
    try clear c14
    try clear c14b0
    try clear c21
    try clear c21b0
    try clear hcz10_21
    try clear hcz11_24
    try clear hcz12_3
    try clear hcz13_6
    try clear hcz15_21
    try clear hcz16_24
    try clear hcz17_3
    try clear hcz18_6
    try clear hcz19_9
    try clear hcz20_11
    try clear hcz22_21
    try clear hcz23_24
    try clear hcz24_3
    try clear hcz25_6
    try clear hcz26_9
    try clear hcz27_11
    try clear hcz28_19
    try clear hcz29_20
    try clear hcz30_21
    try clear hcz31_24
    try clear hcz32_3
    try clear hcz33_6
    try clear hcz34_9
    try clear hcz35_11
    try clear hcz36_19
    try clear hcz37_20
    try clear hcz38_23
    try clear hcz5_21
    try clear hcz7_21
    try clear hcz8_24
    try clear hfz10_21
    try clear hfz11_24
    try clear hfz12_3
    try clear hfz13_6
    try clear hfz15_21
    try clear hfz16_24
    try clear hfz17_3
    try clear hfz18_6
    try clear hfz19_9
    try clear hfz20_11
    try clear hfz22_21
    try clear hfz23_24
    try clear hfz24_3
    try clear hfz25_6
    try clear hfz26_9
    try clear hfz27_11
    try clear hfz28_19
    try clear hfz29_20
    try clear hfz30_21
    try clear hfz31_24
    try clear hfz32_3
    try clear hfz33_6
    try clear hfz34_9
    try clear hfz35_11
    try clear hfz36_19
    try clear hfz37_20
    try clear hfz38_23
    try clear hfz5_21
    try clear hfz7_21
    try clear hfz8_24
    obtain ⟨kq, x50_1, rfl, HA, HJ1, BK411, HB⟩ := hcut
    cases kq with
    | zero => exact absurd HA.out (by simp [roadbookref07_Few.j0])
    | succ kj1 =>
      have H := HA.out
      clear HA
      simp only [roadbookref07_Few.j0] at H
      by_cases c39 : x50_1 = true
      · subst c39
        have H1 : (some false) = some r := by rw [if_pos rfl] at H; exact H
        clear H
        have H := H1
        clear H1
        obtain rfl := Option.some.inj H
        go_wp2
        go_ret
        exact ⟨rtE, bel⟩
      · replace c39 := Bool.eq_false_iff.mpr c39
        subst c39
        have H1 : (roadbookref07_Few.l0 kj1 0 a0_0 a0_1 a0_2 a0_3 a0_4 a0_5 a0_6 a0_7 a0_8 a0_9 a0_10 a0_11 a0_12 a0_13 a0_14 a0_15 a0_16 a0_17 a0_18 a0_19 a0_20 l0_21 a0_22 a0_23 l0_24) = some r := by rw [if_neg (show ¬ (false = true) by decide)] at H; exact H
        clear H
        have H := H1
        clear H1
        have H' := Aside0.mk H
        clear H
        go_wp2
        go_loopg [3] kj1 (fun kq v3 w' => ∃ (x3_2 : Int), v3 = .int .i64 x3_2 ∧ Aside0 (roadbookref07_Few.l0 kq x3_2 a0_0 a0_1 a0_2 a0_3 a0_4 a0_5 a0_6 a0_7 a0_8 a0_9 a0_10 a0_11 a0_12 a0_13 a0_14 a0_15 a0_16 a0_17 a0_18 a0_19 a0_20 l0_21 a0_22 a0_23 l0_24 = some r) ∧ Aside0 (kq ≤ kj1) ∧ Aside0 (w'.heap[gb411]? = some (.cells #[.int .i64 a0_0, .int .i64 a0_1, .int .i64 a0_2, .string a0_3, .int .i64 a0_4, .int .i64 a0_5, .string a0_6, .int .i64 a0_7, .int .i64 a0_8, .string a0_9, .int .i64 a0_10, .string a0_11, .int .i64 a0_12, .int .i64 a0_13, .int .i64 a0_14, .int .i64 a0_15, .int .i64 a0_16, .int .i64 a0_17, .int .i64 a0_18, .string a0_19, .string a0_20, (.slice A0_21 l0_21.length c0_21), .int .i64 a0_22, .string a0_23, (.slice A0_24 l0_24.length c0_24)] 76 (0, 0))) ∧ Aside0 (Below w.heap.size w w'))
        case atStart => exact ⟨(0), rfS, H', ⟨Nat.le_refl _⟩, ⟨blk_below BK411.out bll⟩, ⟨bel⟩⟩
        case round =>
          clear H'
          try clear c4
          try clear c4b0
          try clear c4b1
          try clear c6
          try clear c6b0
          try clear c6b1
          try clear c9
          try clear c9b0
          try clear c14
          try clear c14b0
          try clear c21
          try clear c21b0
          try clear c39
          try clear hcz10_21
          try clear hcz11_24
          try clear hcz12_3
          try clear hcz13_6
          try clear hcz15_21
          try clear hcz16_24
          try clear hcz17_3
          try clear hcz18_6
          try clear hcz19_9
          try clear hcz20_11
          try clear hcz22_21
          try clear hcz23_24
          try clear hcz24_3
          try clear hcz25_6
          try clear hcz26_9
          try clear hcz27_11
          try clear hcz28_19
          try clear hcz29_20
          try clear hcz30_21
          try clear hcz31_24
          try clear hcz32_3
          try clear hcz33_6
          try clear hcz34_9
          try clear hcz35_11
          try clear hcz36_19
          try clear hcz37_20
          try clear hcz38_23
          try clear hcz5_21
          try clear hcz7_21
          try clear hcz8_24
          try clear hfz10_21
          try clear hfz11_24
          try clear hfz12_3
          try clear hfz13_6
          try clear hfz15_21
          try clear hfz16_24
          try clear hfz17_3
          try clear hfz18_6
          try clear hfz19_9
          try clear hfz20_11
          try clear hfz22_21
          try clear hfz23_24
          try clear hfz24_3
          try clear hfz25_6
          try clear hfz26_9
          try clear hfz27_11
          try clear hfz28_19
          try clear hfz29_20
          try clear hfz30_21
          try clear hfz31_24
          try clear hfz32_3
          try clear hfz33_6
          try clear hfz34_9
          try clear hfz35_11
          try clear hfz36_19
          try clear hfz37_20
          try clear hfz38_23
          try clear hfz5_21
          try clear hfz7_21
          try clear hfz8_24
          obtain ⟨x3_2, rfl, HA, HK2, BK411, HB⟩ := hrel
          cases gk with
          | zero => exact absurd HA.out (by simp [roadbookref07_Few.l0])
          | succ k2 =>
            have H := HA.out
            clear HA
            simp only [roadbookref07_Few.l0] at H
            by_cases c40 : x3_2 < (l0_21.length : Int)
            · rw [if_pos c40] at H
              have c40b0 : decide (x3_2 < (l0_21.length : Int)) = true := decide_eq_true c40
              clear c40
              by_cases c41 : 0 ≤ x3_2
              · rw [if_pos c41] at H
                have c41b0 : decide (0 ≤ x3_2) = true := decide_eq_true c41
                clear c41
                by_cases c42 : (((rd_T88 l0_21 x3_2).f0).size : Int) > 50
                · rw [if_pos c42] at H
                  have c42b0 : decide (50 < (((rd_T88 l0_21 x3_2).f0).size : Int)) = true := decide_eq_true c42
                  have c42b1 : decide (50 < ((rd_T88 l0_21 x3_2).f0).size) = true := decide_eq_true (by omega)
                  clear c42
                  obtain rfl := Option.some.inj H
                  have hcz43_21 := cl21 BK411.out
                  have hfz43_21 := blk_frozen BK411.out 21
                  have p412 : 0 ≤ (x3_2 : Int) := odt
                  have q412 : x3_2 < (l0_21.length : Int) := odt
                  obtain ⟨ad412, e412, hx412_0, hx412_1⟩ := at_T88 HR0_21.out x3_2 p412 q412
                  cases e412
                  replace hx412_0 := (HB.out.cell (World.block_lt_of_cell? w _ hx412_0)).trans hx412_0
                  replace hx412_1 := (HB.out.cell (World.block_lt_of_cell? w _ hx412_1)).trans hx412_1
                  replace p412 := eq_true p412
                  replace q412 := eq_true q412
                  go_wp2
                  go_ret
                  exact ⟨rtE, bel⟩
                · rw [if_neg c42] at H
                  have c42b0 : decide (50 < (((rd_T88 l0_21 x3_2).f0).size : Int)) = false := decide_eq_false c42
                  have c42b1 : decide (50 < ((rd_T88 l0_21 x3_2).f0).size) = false := decide_eq_false (by omega)
                  clear c42
                  have H' := Aside0.mk H
                  clear H
                  have hcz44_21 := cl21 BK411.out
                  have hfz44_21 := blk_frozen BK411.out 21
                  have p412 : 0 ≤ (x3_2 : Int) := odt
                  have q412 : x3_2 < (l0_21.length : Int) := odt
                  obtain ⟨ad412, e412, hx412_0, hx412_1⟩ := at_T88 HR0_21.out x3_2 p412 q412
                  cases e412
                  replace hx412_0 := (HB.out.cell (World.block_lt_of_cell? w _ hx412_0)).trans hx412_0
                  replace hx412_1 := (HB.out.cell (World.block_lt_of_cell? w _ hx412_1)).trans hx412_1
                  replace p412 := eq_true p412
                  replace q412 := eq_true q412
                  go_wp2
                  go_roundg k2
                  case measure => have := HJ1.out; have := HK2.out; omega
                  case rel => exact ⟨(wrap64 (x3_2 + 1)), rfS, H', ⟨by have := HJ1.out; have := HK2.out; omega⟩, ⟨blk_below BK411.out bll⟩, ⟨bel⟩⟩
              · rw [if_neg c41] at H
                exact absurd H (by simp)
            · rw [if_neg c40] at H
              have c40b0 : decide (x3_2 < (l0_21.length : Int)) = false := decide_eq_false c40
              clear c40
              have H' := Aside0.mk H
              clear H
              have hcz45_21 := cl21 BK411.out
              have hfz45_21 := blk_frozen BK411.out 21
              go_wp2
              go_loopg [4] k2 (fun kq v4 w' => ∃ (x4_3 : Int), v4 = .int .i64 x4_3 ∧ Aside0 (roadbookref07_Few.l1 kq x4_3 a0_0 a0_1 a0_2 a0_3 a0_4 a0_5 a0_6 a0_7 a0_8 a0_9 a0_10 a0_11 a0_12 a0_13 a0_14 a0_15 a0_16 a0_17 a0_18 a0_19 a0_20 l0_21 a0_22 a0_23 l0_24 = some r) ∧ Aside0 (kq ≤ k2) ∧ Aside0 (w'.heap[gb411]? = some (.cells #[.int .i64 a0_0, .int .i64 a0_1, .int .i64 a0_2, .string a0_3, .int .i64 a0_4, .int .i64 a0_5, .string a0_6, .int .i64 a0_7, .int .i64 a0_8, .string a0_9, .int .i64 a0_10, .string a0_11, .int .i64 a0_12, .int .i64 a0_13, .int .i64 a0_14, .int .i64 a0_15, .int .i64 a0_16, .int .i64 a0_17, .int .i64 a0_18, .string a0_19, .string a0_20, (.slice A0_21 l0_21.length c0_21), .int .i64 a0_22, .string a0_23, (.slice A0_24 l0_24.length c0_24)] 76 (0, 0))) ∧ Aside0 (Below w.heap.size w w'))
              case atStart => exact ⟨(0), rfS, H', ⟨Nat.le_refl _⟩, ⟨blk_below BK411.out bll⟩, ⟨bel⟩⟩
              case round =>
                clear H'
                try clear c4
                try clear c4b0
                try clear c4b1
                try clear c6
                try clear c6b0
                try clear c6b1
                try clear c9
                try clear c9b0
                try clear c14
                try clear c14b0
                try clear c21
                try clear c21b0
                try clear c39
                try clear c40
                try clear c40b0
                try clear c41
                try clear c41b0
                try clear c42
                try clear c42b0
                try clear c42b1
                try clear hcz10_21
                try clear hcz11_24
                try clear hcz12_3
                try clear hcz13_6
                try clear hcz15_21
                try clear hcz16_24
                try clear hcz17_3
                try clear hcz18_6
                try clear hcz19_9
                try clear hcz20_11
                try clear hcz22_21
                try clear hcz23_24
                try clear hcz24_3
                try clear hcz25_6
                try clear hcz26_9
                try clear hcz27_11
                try clear hcz28_19
                try clear hcz29_20
                try clear hcz30_21
                try clear hcz31_24
                try clear hcz32_3
                try clear hcz33_6
                try clear hcz34_9
                try clear hcz35_11
                try clear hcz36_19
                try clear hcz37_20
                try clear hcz38_23
                try clear hcz43_21
                try clear hcz44_21
                try clear hcz45_21
                try clear hcz5_21
                try clear hcz7_21
                try clear hcz8_24
                try clear hfz10_21
                try clear hfz11_24
                try clear hfz12_3
                try clear hfz13_6
                try clear hfz15_21
                try clear hfz16_24
                try clear hfz17_3
                try clear hfz18_6
                try clear hfz19_9
                try clear hfz20_11
                try clear hfz22_21
                try clear hfz23_24
                try clear hfz24_3
                try clear hfz25_6
                try clear hfz26_9
                try clear hfz27_11
                try clear hfz28_19
                try clear hfz29_20
                try clear hfz30_21
                try clear hfz31_24
                try clear hfz32_3
                try clear hfz33_6
                try clear hfz34_9
                try clear hfz35_11
                try clear hfz36_19
                try clear hfz37_20
                try clear hfz38_23
                try clear hfz43_21
                try clear hfz44_21
                try clear hfz45_21
                try clear hfz5_21
                try clear hfz7_21
                try clear hfz8_24
                try clear hx412_0
                try clear hx412_1
                try clear p412
                try clear q412
                obtain ⟨x4_3, rfl, HA, HK3, BK411, HB⟩ := hrel
                cases gk with
                | zero => exact absurd HA.out (by simp [roadbookref07_Few.l1])
                | succ k3 =>
                  have H := HA.out
                  clear HA
                  simp only [roadbookref07_Few.l1] at H
                  by_cases c46 : x4_3 < (l0_24.length : Int)
                  · rw [if_pos c46] at H
                    have c46b0 : decide (x4_3 < (l0_24.length : Int)) = true := decide_eq_true c46
                    clear c46
                    by_cases c47 : 0 ≤ x4_3
                    · rw [if_pos c47] at H
                      have c47b0 : decide (0 ≤ x4_3) = true := decide_eq_true c47
                      clear c47
                      by_cases c48 : (((rd_T78 l0_24 x4_3).f1).size : Int) > 300
                      · rw [if_pos c48] at H
                        have c48b0 : decide (300 < (((rd_T78 l0_24 x4_3).f1).size : Int)) = true := decide_eq_true c48
                        have c48b1 : decide (300 < ((rd_T78 l0_24 x4_3).f1).size) = true := decide_eq_true (by omega)
                        clear c48
                        obtain rfl := Option.some.inj H
                        have hcz49_24 := cl24 BK411.out
                        have hfz49_24 := blk_frozen BK411.out 24
                        have p413 : 0 ≤ (x4_3 : Int) := odt
                        have q413 : x4_3 < (l0_24.length : Int) := odt
                        obtain ⟨ad413, e413, hx413_0, hx413_1⟩ := at_T78 HR0_24.out x4_3 p413 q413
                        cases e413
                        replace hx413_0 := (HB.out.cell (World.block_lt_of_cell? w _ hx413_0)).trans hx413_0
                        replace hx413_1 := (HB.out.cell (World.block_lt_of_cell? w _ hx413_1)).trans hx413_1
                        replace p413 := eq_true p413
                        replace q413 := eq_true q413
                        go_wp2
                        go_ret
                        exact ⟨rtE, bel⟩
                      · rw [if_neg c48] at H
                        have c48b0 : decide (300 < (((rd_T78 l0_24 x4_3).f1).size : Int)) = false := decide_eq_false c48
                        have c48b1 : decide (300 < ((rd_T78 l0_24 x4_3).f1).size) = false := decide_eq_false (by omega)
                        clear c48
                        have H' := Aside0.mk H
                        clear H
                        have hcz50_24 := cl24 BK411.out
                        have hfz50_24 := blk_frozen BK411.out 24
                        have p413 : 0 ≤ (x4_3 : Int) := odt
                        have q413 : x4_3 < (l0_24.length : Int) := odt
                        obtain ⟨ad413, e413, hx413_0, hx413_1⟩ := at_T78 HR0_24.out x4_3 p413 q413
                        cases e413
                        replace hx413_0 := (HB.out.cell (World.block_lt_of_cell? w _ hx413_0)).trans hx413_0
                        replace hx413_1 := (HB.out.cell (World.block_lt_of_cell? w _ hx413_1)).trans hx413_1
                        replace p413 := eq_true p413
                        replace q413 := eq_true q413
                        go_wp2
                        go_roundg k3
                        case measure => have := HJ1.out; have := HK2.out; have := HK3.out; omega
                        case rel => exact ⟨(wrap64 (x4_3 + 1)), rfS, H', ⟨by have := HJ1.out; have := HK2.out; have := HK3.out; omega⟩, ⟨blk_below BK411.out bll⟩, ⟨bel⟩⟩
                    · rw [if_neg c47] at H
                      exact absurd H (by simp)
                  · rw [if_neg c46] at H
                    have c46b0 : decide (x4_3 < (l0_24.length : Int)) = false := decide_eq_false c46
                    clear c46
                    obtain rfl := Option.some.inj H
                    have hcz51_24 := cl24 BK411.out
                    have hfz51_24 := blk_frozen BK411.out 24
                    go_wp2
                    go_ret
                    exact ⟨rtE, bel⟩

/-! ### roadbooklaw19_few: function 29 -/
def roadbooklaw19_few.f (k : Nat) (l0 : List (S78)) : Option (Bool) := (roadbookref07_Few.f k 0 0 0 (⟨#[]⟩ : ByteArray) 0 0 (⟨#[]⟩ : ByteArray) 0 0 (⟨#[]⟩ : ByteArray) 0 (⟨#[]⟩ : ByteArray) 0 0 0 0 0 0 0 (⟨#[]⟩ : ByteArray) (⟨#[]⟩ : ByteArray) ([] : List (S88)) 0 (⟨#[]⟩ : ByteArray) l0).bind fun t414 => (some t414)
theorem roadbooklaw19_few.mono : ∀ a0 k, LeO (roadbooklaw19_few.f k a0) (roadbooklaw19_few.f (k + 1) a0) := by
  intro a0 k
  unfold roadbooklaw19_few.f
  repeat' first
      | (with_reducible exact roadbookref07_Few.mono _ _ _ _ _ _ _ _ _ _ _ _ _ _ _ _ _ _ _ _ _ _ _ _ _ _)
      | (with_reducible exact LeO.refl _)
      | (with_reducible exact LeO.none _)
      | (with_reducible refine LeO.ite ?_ ?_)
      | (with_reducible refine LeO.bind ?_ (fun _ => ?_))
      | exact roadbookref07_Few.mono _ _ _ _ _ _ _ _ _ _ _ _ _ _ _ _ _ _ _ _ _ _ _ _ _ _
      | exact LeO.none _
      | refine LeO.ite ?_ ?_
      | refine LeO.bind ?_ (fun _ => ?_)
set_option maxHeartbeats 8000000 in
set_option maxRecDepth 100000 in
theorem roadbooklaw19_few.calls (k : Nat) (A0 : Option Addr) (c0 : Nat) (l0 : List (S78)) (r : Bool) (w : World) (hr0 : Kd.C k78 w A0 l0.length l0) (hc0 : l0.length ≤ c0) (h : roadbooklaw19_few.f k l0 = some r) :
    Calls Try.prog 29 #[.slice A0 l0.length c0] w fun e w' => e = .returned (.bool r) ∧ Below w.heap.size w w' := by
  have hu76 := Try.underlying76
  have HR0 := Aside0.mk hr0
  have HC0 := Aside0.mk hc0
  clear hr0 hc0
  have HB := Aside0.mk (Below.refl w.heap.size w)
  have H : ((roadbookref07_Few.f k 0 0 0 (⟨#[]⟩ : ByteArray) 0 0 (⟨#[]⟩ : ByteArray) 0 0 (⟨#[]⟩ : ByteArray) 0 (⟨#[]⟩ : ByteArray) 0 0 0 0 0 0 0 (⟨#[]⟩ : ByteArray) (⟨#[]⟩ : ByteArray) ([] : List (S88)) 0 (⟨#[]⟩ : ByteArray) l0).bind fun t414 => (some t414)) = some r := h
  clear h
  replace H := Option.bind_eq_some_iff.mp H
  obtain ⟨t414, A20, H⟩ := H
  replace H : (some t414) = some r := H
  have A2 := Aside0.mk A20
  clear A20
  obtain rfl := Option.some.inj H
  go_enter Try.func29, Try.ntmps29
  go_wp2_with (first | ((with_reducible refine gate_callee (f := 49) rfl ?_); refine goesL_ (some 5) rfl rfl Try.func49 (by kernel_rfl) rfl #[.agg #[.int .i64 0, .int .i64 0, .int .i64 0, .string (⟨#[]⟩ : ByteArray), .int .i64 0, .int .i64 0, .string (⟨#[]⟩ : ByteArray), .int .i64 0, .int .i64 0, .string (⟨#[]⟩ : ByteArray), .int .i64 0, .string (⟨#[]⟩ : ByteArray), .int .i64 0, .int .i64 0, .int .i64 0, .int .i64 0, .int .i64 0, .int .i64 0, .int .i64 0, .string (⟨#[]⟩ : ByteArray), .string (⟨#[]⟩ : ByteArray), .slice none 0 0, .int .i64 0, .string (⟨#[]⟩ : ByteArray), .slice A0 l0.length c0]] rfl gAr ?_; (refine (roadbookref07_Few.calls k 0 0 0 (⟨#[]⟩ : ByteArray) 0 0 (⟨#[]⟩ : ByteArray) 0 0 (⟨#[]⟩ : ByteArray) 0 (⟨#[]⟩ : ByteArray) 0 0 0 0 0 0 0 (⟨#[]⟩ : ByteArray) (⟨#[]⟩ : ByteArray) _ _ ([] : List (S88)) 0 (⟨#[]⟩ : ByteArray) _ _ l0 t414 _ ?side1 ?side2 ?side3 ?side4 A2.out).mono ?_); (case side1 => exact Kd.C_nil _ _); (case side2 => exact Nat.le_refl _); (case side3 => repeat (first | exact HR0.out | (with_reducible refine Kd.C_alloc ?_ _) | (with_reducible refine Kd.C_drewN ?_ _) | (with_reducible refine Kd.C_drew ?_))); (case side4 => exact HC0.out); rintro e w3 ⟨rfl, hb⟩; refine ⟨_, rfl, ?_⟩; have n0_ := Aside0.mk (below_step (bel) hb); clear HB; have HB := n0_; clear n0_; (try clear hb)))
  go_ret
  exact ⟨rtE, bel⟩

/-! ### msg_Bytes: function 50 -/
def msg_Bytes.l0 : Nat → Int → List (S78) → Int → Int → Option (Int)
  | 0, _, _, _, _ => none
  | k + 1, x3, x6, x7, x8 => if x8 < x7 then (if 0 ≤ x8 then (if x8 < (x6.length : Int) then (msg_Bytes.l0 k (wrap64 (x3 + (wrap64 (2 + (((rd_T78 x6 x8).f1).size : Int))))) x6 x7 (wrap64 (x8 + 1))) else (none)) else (none)) else (some x3)
def msg_Bytes.f (k : Nat) (l0 : List (S78)) : Option (Int) := msg_Bytes.l0 k 0 l0 (l0.length : Int) 0
theorem msg_Bytes.mono_l : ∀ k, (∀ y0 y1 y2 y3, LeO (msg_Bytes.l0 k y0 y1 y2 y3) (msg_Bytes.l0 (k + 1) y0 y1 y2 y3))
  | 0 => fun _ _ _ _ r h => by simp [msg_Bytes.l0] at h
  | k + 1 => by
    have ih0 := msg_Bytes.mono_l k
    · intro y0 y1 y2 y3
      unfold msg_Bytes.l0
      repeat' first
      | (with_reducible exact ih0 _ _ _ _)
      | (with_reducible exact LeO.refl _)
      | (with_reducible exact LeO.none _)
      | (with_reducible refine LeO.ite ?_ ?_)
      | (with_reducible refine LeO.bind ?_ (fun _ => ?_))
      | exact ih0 _ _ _ _
      | exact LeO.none _
      | refine LeO.ite ?_ ?_
      | refine LeO.bind ?_ (fun _ => ?_)
theorem msg_Bytes.mono : ∀ a0 k, LeO (msg_Bytes.f k a0) (msg_Bytes.f (k + 1) a0) := by
  intro a0 k
  have ih0 := msg_Bytes.mono_l k
  unfold msg_Bytes.f
  repeat' first
      | (with_reducible exact ih0 _ _ _ _)
      | (with_reducible exact LeO.refl _)
      | (with_reducible exact LeO.none _)
      | (with_reducible refine LeO.ite ?_ ?_)
      | (with_reducible refine LeO.bind ?_ (fun _ => ?_))
      | exact ih0 _ _ _ _
      | exact LeO.none _
      | refine LeO.ite ?_ ?_
      | refine LeO.bind ?_ (fun _ => ?_)
set_option maxHeartbeats 8000000 in
set_option maxRecDepth 100000 in
theorem msg_Bytes.calls (k : Nat) (A0 : Option Addr) (c0 : Nat) (l0 : List (S78)) (r : Int) (w : World) (hr0 : Kd.C k78 w A0 l0.length l0) (hc0 : l0.length ≤ c0) (h : msg_Bytes.f k l0 = some r) :
    Calls Try.prog 50 #[.slice A0 l0.length c0] w fun e w' => e = .returned (.int .i64 r) ∧ Below w.heap.size w w' := by
  have hu78 := Try.underlying78
  have HR0 := Aside0.mk hr0
  have HC0 := Aside0.mk hc0
  clear hr0 hc0
  have HB := Aside0.mk (Below.refl w.heap.size w)
  have H : (msg_Bytes.l0 k 0 l0 (l0.length : Int) 0) = some r := h
  clear h
  have H' := Aside0.mk H
  clear H
  go_enter Try.func50, Try.ntmps50
  go_wp2
  go_loopg [3, 8] k (fun kq v3 v8 w' => ∃ (x3_1 : Int) (x8_1 : Int), v3 = .int .i64 x3_1 ∧ v8 = .int .i64 x8_1 ∧ Aside0 (msg_Bytes.l0 kq x3_1 l0 (l0.length : Int) x8_1 = some r) ∧ Aside0 (kq ≤ k) ∧ Aside0 (Below w.heap.size w w'))
  case atStart => exact ⟨(0), (0), rfS, rfS, H', ⟨Nat.le_refl _⟩, ⟨bel⟩⟩
  case round =>
    clear H'
    obtain ⟨x3_1, x8_1, rfl, rfl, HA, HK1, HB⟩ := hrel
    cases gk with
    | zero => exact absurd HA.out (by simp [msg_Bytes.l0])
    | succ k1 =>
      have H := HA.out
      clear HA
      simp only [msg_Bytes.l0] at H
      by_cases c2 : x8_1 < (l0.length : Int)
      · rw [if_pos c2] at H
        have c2b0 : decide (x8_1 < (l0.length : Int)) = true := decide_eq_true c2
        clear c2
        by_cases c3 : 0 ≤ x8_1
        · rw [if_pos c3] at H
          have c3b0 : decide (0 ≤ x8_1) = true := decide_eq_true c3
          clear c3
          by_cases c4 : x8_1 < (l0.length : Int)
          · rw [if_pos c4] at H
            have c4b0 : decide (x8_1 < (l0.length : Int)) = true := decide_eq_true c4
            clear c4
            have H' := Aside0.mk H
            clear H
            have p415 : 0 ≤ (x8_1 : Int) := odt
            have q415 : x8_1 < (l0.length : Int) := odt
            obtain ⟨ad415, e415, hx415_0, hx415_1⟩ := at_T78 HR0.out x8_1 p415 q415
            cases e415
            replace hx415_0 := (HB.out.cell (World.block_lt_of_cell? w _ hx415_0)).trans hx415_0
            replace hx415_1 := (HB.out.cell (World.block_lt_of_cell? w _ hx415_1)).trans hx415_1
            replace p415 := eq_true p415
            replace q415 := eq_true q415
            go_wp2_with (first | ((with_reducible refine gate_dst (N := 5) rfl ?_); refine box_event ?hg (N := 5) ?hd (cs := #[.int .i64 0, .string (⟨#[]⟩ : ByteArray)]) (t := 78) ?hr ?_; (case hd => rfl); (case hg => rfl); (case hr => first | (go_simp; done) | (go_simp; rfl)); intro gb416 hg w5 hbox hb; have n0_ := Aside0.mk (below_step (bel) hb); have n1_ := Aside0.mk (hbox); have n2_ := Aside0.mk ((by rw [hg]; exact bsz : w.heap.size ≤ gb416)); have n3_ := Aside0.mk ((by rw [hg]; exact bsz : w.heap.size ≤ gb416)); clear HB; have HB := n0_; have BK416 := n1_; have GW416 := n2_; have GE416 := n3_; clear n0_ n1_ n2_ n3_; clear hb hbox hg; have hcz6_0 := cl0 BK416.out; have hfz6_0 := blk_frozen BK416.out 0; have hcz7_1 := cl1 BK416.out; have hfz7_1 := blk_frozen BK416.out 1))
            go_roundg k1
            case measure => have := HK1.out; omega
            case rel => exact ⟨(wrap64 (x3_1 + (wrap64 (2 + (((rd_T78 l0 x8_1).f1).size : Int))))), (wrap64 (x8_1 + 1)), rfS, rfS, H', ⟨by have := HK1.out; omega⟩, ⟨bel⟩⟩
          · rw [if_neg c4] at H
            exact absurd H (by simp)
        · rw [if_neg c3] at H
          exact absurd H (by simp)
      · rw [if_neg c2] at H
        have c2b0 : decide (x8_1 < (l0.length : Int)) = false := decide_eq_false c2
        clear c2
        obtain rfl := Option.some.inj H
        go_wp2
        go_ret
        exact ⟨rtE, bel⟩

end Go.Proofs.Ytjgnpggpgkkknaa.Pr
