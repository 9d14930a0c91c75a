/- The body of any bytes, the trailer, and the datagram of any body, are the document's: the pure statement, for all bytes (no condition beyond the law's own guard). -/
import Derived.Test.YtjgnpggpgkkknaaPr16
import Derived.Test.YtjgnpggpgkkknaaPuBase
import Derived.Test.YtjgnpggpgkkknaaPuFrame
import Derived.Test.YtjgnpggpgkkknaaPuFrameAw
import Derived.Test.YtjgnpggpgkkknaaPuOctet
namespace Go.Proofs.Ytjgnpggpgkkknaa.Pure
open Go.RowKit Go.Proofs.Ytjgnpggpgkkknaa.Pr Go.Proofs.YtjgnpggpgkkknaaW.PrintWords Go.Proofs.YtjgnpggpgkkknaaW.PrintLast Go.Proofs.YtjgnpggpgkkknaaW.PrintMore
theorem FrameBodies : roadbooklaw18_FrameBodies.Pure := by
  intro s hs
  refine ⟨60, ?_⟩
  unfold roadbooklaw18_FrameBodies.f
  by_cases h : (s.size : Int) > 3000
  · rw [if_pos h, awake18 (by omega)]; rfl
  · rw [if_neg h, body_is, rbody_is, wrap_is (by unfold Small; omega) (by omega), rwrap_is (by unfold Small; omega) (by omega), awake18 (by omega)]
    by_cases h2 : (bodyF s).2.2 = 0
    · rw [trailer_is h2, rtrailer_is h2]
      simp
    · simp [h2]
end Go.Proofs.Ytjgnpggpgkkknaa.Pure
