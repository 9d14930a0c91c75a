import Derived.Test.YtnccbadmlgfmgaaGreatFTy
set_option linter.unusedVariables false
set_option linter.unusedSimpArgs false
set_option maxRecDepth 1000000
set_option maxHeartbeats 4000000
namespace Go.VI
open Go Go.Proofs
/-! ### text_words -/
def sg_text_words : Sig τ := ⟨[], [T_15_string]⟩
def ad_text_words : Adv := ⟨2, [[0], [0]], [], []⟩
noncomputable def es_text_words : List (Ent U) := []
noncomputable def g_text_words : Unit → Option ((S_15_string × Unit) × Unit) := runFn (U := U) Tryz.prog es_text_words ad_text_words 0 Tryz.f28 sg_text_words
noncomputable def e_text_words : Ent U := ⟨28, sg_text_words, g_text_words⟩
/-! ### text_Word -/
def sg_text_Word : Sig τ := ⟨[(false, T_int)], [T_string]⟩
def ad_text_Word : Adv := ⟨12, [[0], [0, 8], [2], [2]], [], []⟩
noncomputable def es_text_Word : List (Ent U) := [e_text_words]
noncomputable def g_text_Word : Int × Unit → Option (((List UInt8) × Unit) × Unit) := runFn (U := U) Tryz.prog es_text_Word ad_text_Word 0 Tryz.f20 sg_text_Word
noncomputable def e_text_Word : Ent U := ⟨20, sg_text_Word, g_text_Word⟩
/-! ### ref29_words -/
def sg_ref29_words : Sig τ := ⟨[], [T_list_string]⟩
def ad_ref29_words : Adv := ⟨2, [[], [0]], [], []⟩
noncomputable def es_ref29_words : List (Ent U) := []
noncomputable def g_ref29_words : Unit → Option (((List (List UInt8)) × Unit) × Unit) := runFn (U := U) Tryz.prog es_ref29_words ad_ref29_words 0 Tryz.f21 sg_ref29_words
noncomputable def e_ref29_words : Ent U := ⟨21, sg_ref29_words, g_ref29_words⟩
/-! ### ref29_Word -/
def sg_ref29_Word : Sig τ := ⟨[(false, T_int)], [T_string]⟩
def ad_ref29_Word : Adv := ⟨13, [[0], [0, 8], [2], [2]], [], []⟩
noncomputable def es_ref29_Word : List (Ent U) := [e_ref29_words]
noncomputable def g_ref29_Word : Int × Unit → Option (((List UInt8) × Unit) × Unit) := runFn (U := U) Tryz.prog es_ref29_Word ad_ref29_Word 0 Tryz.f13 sg_ref29_Word
noncomputable def e_ref29_Word : Ent U := ⟨13, sg_ref29_Word, g_ref29_Word⟩
/-! ### ref30_Kind -/
def sg_ref30_Kind : Sig τ := ⟨[(false, T_string)], [T_int]⟩
def ad_ref30_Kind : Adv := ⟨13, [[0], [0, 3], [0, 3, 5], [0, 3], [0, 3, 11], [2], [2]], [], []⟩
noncomputable def es_ref30_Kind : List (Ent U) := [e_ref29_Word]
noncomputable def h_ref30_Kind (n : Nat) : (List UInt8) × Unit → Option ((Int × Unit) × Unit) := runFn (U := U) Tryz.prog es_ref30_Kind ad_ref30_Kind n Tryz.f8 sg_ref30_Kind
noncomputable def g_ref30_Kind : (List UInt8) × Unit → Option ((Int × Unit) × Unit) := h_ref30_Kind fuel
noncomputable def e_ref30_Kind : Ent U := ⟨8, sg_ref30_Kind, g_ref30_Kind⟩
noncomputable def fn_ref30_Kind := lp (tab es_ref30_Kind) ad_ref30_Kind Tryz.f8 0 sg_ref30_Kind
noncomputable def L_ref30_Kind_0 (n m : Nat) (a0 : List UInt8) (x3 : Int) : Option ((Int × Unit) × Unit) :=
  fn_ref30_Kind n [.r, .l, .r, .l, .at m] [(0, .one (.str a0)), (3, .one (.int .i64 x3))]
end Go.VI
