/- The TLVs of any bytes, from any place on, and the bytes of any TLV, are the document's: the pure statement, for all arguments (no condition beyond the law's own guard). -/
import Derived.Test.YtjgnpggpgkkknaaPr28
import Derived.Test.YtjgnpggpgkkknaaPuBase
import Derived.Test.YtjgnpggpgkkknaaPuFrame
import Derived.Test.YtjgnpggpgkkknaaPuFrameAw
import Derived.Test.YtjgnpggpgkkknaaPuFrameBk
import Derived.Test.YtjgnpggpgkkknaaPuOctet
import Derived.OpenShut
namespace Go.Proofs.Ytjgnpggpgkkknaa.Pure
open Go.RowKit Go.Proofs.Ytjgnpggpgkkknaa.Pr Go.Proofs.YtjgnpggpgkkknaaW.PrintWords Go.Proofs.YtjgnpggpgkkknaaW.PrintLast Go.Proofs.YtjgnpggpgkkknaaW.PrintMore
theorem u16_rng {x : Int} (h : (Lit.int .u16 x).wf = true) : 0 ≤ x ∧ x ≤ 65535 := by
  simp only [Lit.wf, IntKind.min, IntKind.max, IntKind.bits, IntKind.signed] at h
  simp at h
  omega
theorem FrameSplits : roadbooklaw18_FrameSplits.Pure := by
  intro x hx
  have hb := u16_rng hx.2.1
  refine ⟨3101, ?_⟩
  have go : ∀ b, (b = false → (x.f0.size : Int) ≤ 3000) → roadbooklaw18_FrameSplits.j0 3101 x.f0 x.f1 x.f2 x.f3 b = some true := by
    intro b hs
    rw [roadbooklaw18_FrameSplits.j0]
    by_cases h : b = true
    · rw [if_pos h, awake18 (by omega)]; rfl
    · have hs := hs (by simpa using h)
      rw [if_neg h, w64 (by omega) (by omega), split_is (by unfold Small; omega) (by omega) (by omega), rsplit_is (by unfold Small; omega) (by omega) (by omega), tput_is, rtput_is, awake18 (by omega)]
      have hl : (splitF x.f0 x.f1).1.length ≤ x.f0.size := by
        rcases splitF_cases x.f0 x.f1 with ⟨l, h1, _, h3⟩ | ⟨y, h1, _, _⟩
        · rw [h1]; exact h3
        · rw [h1]; simp
      simp only [Option.bind_some, if_true]
      rw [same_refl _ (by omega) (by omega)]
      simp
  unfold roadbooklaw18_FrameSplits.f
  split
  · exact go _ (by simp)
  · exact go _ (fun h => by omega)
end Go.Proofs.Ytjgnpggpgkkknaa.Pure
