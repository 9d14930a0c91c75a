/- Twenty bytes are one entry's, and an entry that has bytes is that of these: the pure statement, for all bytes and all entries (no condition beyond the law's own guard). -/
import Derived.Test.YtjgnpggpgkkknaaPr11
import Derived.Test.YtjgnpggpgkkknaaPuBase
import Derived.Test.YtjgnpggpgkkknaaPuEntry
import Derived.Test.YtjgnpggpgkkknaaPuEntryBk
import Derived.Test.YtjgnpggpgkkknaaPuOctet
namespace Go.Proofs.Ytjgnpggpgkkknaa.Pure
open Go.RowKit Go.Proofs.Ytjgnpggpgkkknaa.Pr Go.Proofs.YtjgnpggpgkkknaaW.PrintWords Go.Proofs.YtjgnpggpgkkknaaW.PrintLast Go.Proofs.YtjgnpggpgkkknaaW.PrintMore
theorem awake8 {k : Nat} (hk : 30 ≤ k) : roadbooklaw08_awake.f k = some true := by
  unfold roadbooklaw08_awake.f
  rw [put_is (by omega) (by omega) (by omega) (by omega)]
  have e : EPut 2 0 ⟨#[0, 0, 0, 0]⟩ ⟨#[0, 0, 0, 0]⟩ ⟨#[0, 0, 0, 0]⟩ 1 = (⟨#[0, 2, 0, 0, 0, 0, 0, 0, 0, 0, 0, 0, 0, 0, 0, 0, 0, 0, 0, 1]⟩, true) := by decide +kernel
  rw [e]
  simp only [Option.bind_some, ByteArray.toList_eq]
  decide +kernel
theorem EntryBack : roadbooklaw08_EntryBack.Pure := by
  intro s x hs hx
  have hf := i64_rng hx.1
  have ht := i64_rng hx.2.1
  have hc := i64_rng hx.2.2.2.2.2
  refine ⟨42, ?_⟩
  have two : roadbooklaw08_EntryBack.j1 41 false x.f0 x.f1 x.f2 x.f3 x.f4 x.f5 = some true := by
    rw [roadbooklaw08_EntryBack.j1, if_neg (by simp), put_is hf ht hc (by omega)]
    simp only [Option.bind_some]
    rw [get_is (by omega), awake8 (by omega)]
    simp only [Option.bind_some, if_true]
    unfold EPut
    by_cases h : EOk x.f0 x.f1 x.f2 x.f3 x.f4 x.f5
    · rw [if_pos h, if_pos rfl, get_put h]
      simp
    · rw [if_neg h]
      simp [ByteArray.toList_eq]
  have go : ∀ b, roadbooklaw08_EntryBack.j0 42 s b x.f0 x.f1 x.f2 x.f3 x.f4 x.f5 = some true := by
    intro b
    rw [roadbooklaw08_EntryBack.j0]
    by_cases hb : b = true
    · rw [if_pos hb, awake8 (by omega)]; rfl
    · rw [if_neg hb, get_is (by omega)]
      simp only [Option.bind_some]
      by_cases h : s.size = 20
      · have r := eget_rng s
        rw [put_is (by omega) (by omega) (by omega) (by omega)]
        simp only [Option.bind_some]
        rw [put_get h]
        have e : (EGet s).2.2.2.2.2.2 = true := by simp [EGet, h]
        rw [e, if_neg (by simp; omega), if_pos rfl, if_pos rfl]
        simpa using two
      · have e : EGet s = (0, 0, ⟨#[]⟩, ⟨#[]⟩, ⟨#[]⟩, 0, false) := by simp [EGet, h]
        rw [e, put_is (by decide) (by decide) (by decide) (by omega)]
        simp only [Option.bind_some]
        rw [if_neg (by simp; omega), if_neg (by simp)]
        exact two
  unfold roadbooklaw08_EntryBack.f
  split
  · exact go _
  · split
    · exact go _
    · exact go _
end Go.Proofs.Ytjgnpggpgkkknaa.Pure
