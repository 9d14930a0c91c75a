/- Bytes of TLVs, one behind the other, are the TLVs of both, at their places: the pure statement, for all bytes (no condition beyond the law's own guard). -/
import Derived.Test.YtjgnpggpgkkknaaPr15
import Derived.Test.YtjgnpggpgkkknaaPuBase
import Derived.Test.YtjgnpggpgkkknaaPuFrame
import Derived.Test.YtjgnpggpgkkknaaPuFrameAw
import Derived.Test.YtjgnpggpgkkknaaPuFrameBk
import Derived.Test.YtjgnpggpgkkknaaPuOctet
namespace Go.Proofs.Ytjgnpggpgkkknaa.Pure
open Go.RowKit Go.Proofs.Ytjgnpggpgkkknaa.Pr Go.Proofs.YtjgnpggpgkkknaaW.PrintWords Go.Proofs.YtjgnpggpgkkknaaW.PrintLast Go.Proofs.YtjgnpggpgkkknaaW.PrintMore
theorem FrameJoins : roadbooklaw18_FrameJoins.Pure := by
  intro s t hs ht
  refine ⟨4101, ?_⟩
  have go : ∀ b, (b = false → (s.size : Int) ≤ 2000 ∧ (t.size : Int) ≤ 2000) → roadbooklaw18_FrameJoins.j0 4101 s t b = some true := by
    intro b hb
    rw [roadbooklaw18_FrameJoins.j0]
    by_cases h : b = true
    · rw [if_pos h, awake18 (by omega)]; rfl
    · obtain ⟨h1, h2⟩ := hb (by simpa using h)
      have hst : (s ++ t).size = s.size + t.size := size_append s t
      rw [if_neg h, w64 (by omega) (by omega), split_is (s := s) (by unfold Small; omega) (by omega) (by omega), split_is (s := t) (by unfold Small; omega) (by omega) (by omega), Option.bind_some, Option.bind_some, if_pos (by omega), split_is (s := s ++ t) (by unfold Small; omega) (by omega) (by omega), Option.bind_some, awake18 (by omega)]
      rcases splitF_cases s 4 with ⟨l, e1, _, e2⟩ | ⟨x, e1, e2, _⟩
      · rw [splitF_join s t 4 e1, e1]
        rcases splitF_cases t (4 + (s.size : Int)) with ⟨m, f1, _, f2⟩ | ⟨y, f1, f2, _⟩
        · rw [f1]
          simp only [pre, if_true, Option.bind_some]
          rw [if_pos (by simp; omega), if_pos (by simp; omega), List.nil_append, same_refl _ (by simp; omega) (by simp; omega)]
          rfl
        · rw [f1]
          simp [pre]
      · rw [e1]
        simp
        omega
  unfold roadbooklaw18_FrameJoins.f
  split
  · exact go _ (by simp)
  · exact go _ (fun h => by simp at h; omega)
end Go.Proofs.Ytjgnpggpgkkknaa.Pure
