/- The entry of any bytes, and the bytes of any entry, are the document's: the pure statement, for all bytes and all entries (no condition beyond the law's own guard). -/
import Derived.Test.YtjgnpggpgkkknaaPr10
import Derived.Test.YtjgnpggpgkkknaaPuBase
import Derived.Test.YtjgnpggpgkkknaaPuEntry
import Derived.Test.YtjgnpggpgkkknaaPuOctet
namespace Go.Proofs.Ytjgnpggpgkkknaa.Pure
open Go.RowKit Go.Proofs.Ytjgnpggpgkkknaa.Pr Go.Proofs.YtjgnpggpgkkknaaW.PrintWords Go.Proofs.YtjgnpggpgkkknaaW.PrintLast Go.Proofs.YtjgnpggpgkkknaaW.PrintMore
theorem awake8 {k : Nat} (hk : 30 ≤ k) : roadbooklaw08_awake.f k = some true := by
  unfold roadbooklaw08_awake.f
  rw [put_is (by omega) (by omega) (by omega) (by omega)]
  have e : EPut 2 0 ⟨#[0, 0, 0, 0]⟩ ⟨#[0, 0, 0, 0]⟩ ⟨#[0, 0, 0, 0]⟩ 1 = (⟨#[0, 2, 0, 0, 0, 0, 0, 0, 0, 0, 0, 0, 0, 0, 0, 0, 0, 0, 0, 1]⟩, true) := by decide +kernel
  rw [e]
  simp only [Option.bind_some, ByteArray.toList_eq]
  decide +kernel
theorem EntryTells : roadbooklaw08_EntryTells.Pure := by
  intro s x hs hx
  have hf := i64_rng hx.1
  have ht := i64_rng hx.2.1
  have hc := i64_rng hx.2.2.2.2.2
  have ha := hx.2.2.1
  have hm := hx.2.2.2.1
  refine ⟨41, ?_⟩
  have go : ∀ b, roadbooklaw08_EntryTells.j0 41 s b x.f0 x.f1 x.f2 x.f3 x.f4 x.f5 = some true := by
    intro b
    rw [roadbooklaw08_EntryTells.j0]
    by_cases hb : b = true
    · rw [if_pos hb, awake8 (by omega)]; rfl
    · rw [if_neg hb, get_is (by omega), rget_is (by omega), put_is hf ht hc (by omega), rput_is hf ht hc (by omega), awake8 (by omega)]
      simp
  unfold roadbooklaw08_EntryTells.f
  split
  · exact go _
  · split
    · exact go _
    · exact go _
end Go.Proofs.Ytjgnpggpgkkknaa.Pure
