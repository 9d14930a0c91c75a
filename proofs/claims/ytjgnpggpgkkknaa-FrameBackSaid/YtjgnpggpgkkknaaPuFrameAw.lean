/- The document's example of layer 18. -/
import Derived.Test.YtjgnpggpgkkknaaPr13
import Derived.Test.YtjgnpggpgkkknaaPuBase
import Derived.Test.YtjgnpggpgkkknaaPuFrame
import Derived.Test.YtjgnpggpgkkknaaPuOctet
import Derived.KernelRfl
namespace Go.Proofs.Ytjgnpggpgkkknaa.Pure
open Go.RowKit Go.Proofs.Ytjgnpggpgkkknaa.Pr Go.Proofs.YtjgnpggpgkkknaaW.PrintWords Go.Proofs.YtjgnpggpgkkknaaW.PrintLast Go.Proofs.YtjgnpggpgkkknaaW.PrintMore
theorem awake18 {k : Nat} (hk : 60 ≤ k) : roadbooklaw18_awake.f k = some true := by
  have e1 : bodyF ⟨#[42, 2, 0, 0]⟩ = (⟨#[]⟩, 0, 0) := by kernel_rfl
  have e2 : wrapF ⟨#[]⟩ = (⟨#[42, 2, 0, 0]⟩, true) := by kernel_rfl
  have e3 : splitF ⟨#[0, 3, 2, 97, 98]⟩ 4 = ([⟨0, 4, ⟨#[]⟩⟩, ⟨3, 5, ⟨#[97, 98]⟩⟩], 0, 0) := by kernel_rfl
  have s3 : (⟨#[0, 3, 2, 97, 98]⟩ : ByteArray).size = 5 := rfl
  have s0 : (⟨#[]⟩ : ByteArray).size = 0 := rfl
  unfold roadbooklaw18_awake.f
  rw [body_is, wrap_is (by unfold Small; omega) (by omega), split_is (by unfold Small; omega) (by omega) (by omega), e1, e2, e3]
  simp only [Option.bind_some, ByteArray.toList_eq]
  decide +kernel
end Go.Proofs.Ytjgnpggpgkkknaa.Pure
