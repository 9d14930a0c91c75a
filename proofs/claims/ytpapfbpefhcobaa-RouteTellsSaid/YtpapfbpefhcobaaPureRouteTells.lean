/- Whether any bytes and length are a prefix in any encoding, whether any message may be a request, and its bytes, are the document's: for all arguments. -/
import Derived.Test.YtpapfbpefhcobaaFQ4
import Derived.Test.YtpapfbpefhcobaaPBase
import Derived.Test.YtpapfbpefhcobaaPCur
import Derived.Test.YtpapfbpefhcobaaPOct
import Derived.Test.YtpapfbpefhcobaaPTlv
import Derived.Test.YtpapfbpefhcobaaPSub
import Derived.Test.YtpapfbpefhcobaaPMsg
import Derived.Test.YtpapfbpefhcobaaPAddr
import Derived.Test.YtpapfbpefhcobaaPBits
import Derived.Test.YtpapfbpefhcobaaPField
import Derived.Test.YtpapfbpefhcobaaPFieldG
import Derived.Test.YtpapfbpefhcobaaPFieldB
import Derived.Test.YtpapfbpefhcobaaPRoute
import Derived.Test.YtpapfbpefhcobaaPRouteG
import Derived.Test.YtpapfbpefhcobaaPRouteB
import Derived.Test.YtpapfbpefhcobaaPGood
set_option linter.unusedVariables false
set_option linter.unusedSimpArgs false
set_option maxRecDepth 100000
namespace Go.VP
open Go Go.VI
theorem routeTells_pure (x0 : S_law21_Ask) (g0 : Good_law21_Ask x0) : g_law21_RouteTells (x0, ()) = some ((true, ()), ()) := by
  obtain ⟨a1, a2, a3, a4, a5, a6, a7, a8, a9, a10, a11, a12, a13, a14, a15, a16, a17, a18, a19, a20, a21, a22, a23, a24, a25, b1, b2, b3, _⟩ := g0
  have gm : Good_api_Msg ⟨x0.m_Kind, x0.m_Cmd, x0.m_Ver, x0.m_Auth, x0.m_Family, x0.m_Ae, x0.m_Prefix, x0.m_Plen, x0.m_Tag, x0.m_Next, x0.m_Metric, x0.m_Id, x0.m_Seq, x0.m_Seq2, x0.m_Interval, x0.m_Flags, x0.m_Hops, x0.m_Nonce, x0.m_Cost, x0.m_Addr, x0.m_Orig, x0.m_List, x0.m_Type, x0.m_Data, x0.m_Subs⟩ :=
    ⟨a1, a2, a3, a4, a5, a6, a7, a8, a9, a10, a11, a12, a13, a14, a15, a16, a17, a18, a19, a20, a21, a22, a23, a24, a25, trivial⟩
  rw [g_law21_RouteTells_eq]
  generalize S_api_Msg.mk x0.m_Kind x0.m_Cmd x0.m_Ver x0.m_Auth x0.m_Family x0.m_Ae x0.m_Prefix x0.m_Plen x0.m_Tag x0.m_Next x0.m_Metric x0.m_Id x0.m_Seq x0.m_Seq2 x0.m_Interval x0.m_Flags x0.m_Hops x0.m_Nonce x0.m_Cost x0.m_Addr x0.m_Orig x0.m_List x0.m_Type x0.m_Data x0.m_Subs = m at gm ⊢
  obtain ⟨b, e, h⟩ := few_is (goodMsg gm)
  rw [e, Option.bind_some]
  dsimp only
  cases b with
  | false => rw [ifnf, awake21]; rfl
  | true =>
    have g := goodM gm (h rfl).lite
    by_cases hl : (100 : Int) < x0.addr.length
    · rw [ifnt, ifd hl, awake21]; rfl
    · rw [ifnt, ifn hl, rtput_is' g, Option.bind_some, rrtput_is g, Option.bind_some, awake21, Option.bind_some, in_is (by omega) b3, Option.bind_some, rin_is (by omega), Option.bind_some, rtright_is g, Option.bind_some, rrtright_is g, Option.bind_some]
      simp
end Go.VP
