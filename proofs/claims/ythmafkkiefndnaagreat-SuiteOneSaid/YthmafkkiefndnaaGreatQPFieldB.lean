/- Fields' messages come back of their TLVs. -/
import Derived.Test.YthmafkkiefndnaaGreatQPBase
import Derived.Test.YthmafkkiefndnaaGreatQPCur
import Derived.Test.YthmafkkiefndnaaGreatQPOct
import Derived.Test.YthmafkkiefndnaaGreatQPTlv
import Derived.Test.YthmafkkiefndnaaGreatQPSub
import Derived.Test.YthmafkkiefndnaaGreatQPMsg
import Derived.Test.YthmafkkiefndnaaGreatQPAddr
import Derived.Test.YthmafkkiefndnaaGreatQPField
import Derived.Test.YthmafkkiefndnaaGreatQFH
set_option linter.unusedVariables false
set_option linter.unusedSimpArgs false
set_option maxRecDepth 100000
namespace Go.VP
open Go Go.VI
theorem AllR.few {l : List Sub} (h : AllR l) : ∀ y ∈ l, y.data.length ≤ 300 := fun y hy => by have := h y hy; omega
theorem FieldR.small {m : Msg} (r : FieldR m) : (fieldsF m).length ≤ 22 := by
  unfold fieldsF; split
  · simp [be_length]
  · split
    · simp [be_length]
    · split
      · simp [be_length]
      · rcases r.kinds with hk | hk | ⟨hk, _⟩ | ⟨hk, ha⟩ <;> first | omega | skip
        rcases addrB_cases ha with ⟨h, h2⟩ | ⟨h, h2⟩ | ⟨h, h2⟩ | ⟨h, h2⟩
        · simp [be_length, h, h2]
        · simp [be_length, h, h2]
        · simp [be_length, h, h2]
        · have := (linkB_len h2).1
          simp [be_length, h, this]
end Go.VP
