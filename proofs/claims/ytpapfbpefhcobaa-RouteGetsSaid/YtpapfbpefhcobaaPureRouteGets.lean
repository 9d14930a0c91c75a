/- The request, or the Update as it stands, of any TLV of the types 8 to 10 is the document's: for all arguments. -/
import Derived.Test.YtpapfbpefhcobaaFQ6
import Derived.Test.YtpapfbpefhcobaaPBase
import Derived.Test.YtpapfbpefhcobaaPCur
import Derived.Test.YtpapfbpefhcobaaPOct
import Derived.Test.YtpapfbpefhcobaaPTlv
import Derived.Test.YtpapfbpefhcobaaPSub
import Derived.Test.YtpapfbpefhcobaaPMsg
import Derived.Test.YtpapfbpefhcobaaPAddr
import Derived.Test.YtpapfbpefhcobaaPBits
import Derived.Test.YtpapfbpefhcobaaPField
import Derived.Test.YtpapfbpefhcobaaPFieldG
import Derived.Test.YtpapfbpefhcobaaPFieldB
import Derived.Test.YtpapfbpefhcobaaPRoute
import Derived.Test.YtpapfbpefhcobaaPRouteG
import Derived.Test.YtpapfbpefhcobaaPRouteB
import Derived.Test.YtpapfbpefhcobaaPTake
import Derived.Test.YtpapfbpefhcobaaPGood
set_option linter.unusedVariables false
set_option linter.unusedSimpArgs false
set_option maxRecDepth 100000
namespace Go.VP
open Go Go.VI
theorem takeG_subs (d : Bs) (hd : d.length ≤ 1000) : (takeG d).1.subs.length ≤ 1000 := by
  unfold takeG
  split
  · simp
  split
  · simp
  dsimp only
  split
  · simp
  split
  · simp
  · rcases getS_cases (d.drop (10 + restN (bt d 0) (bt d 2) (bt d 3)).toNat) with ⟨l, hg, _, _, _, hN⟩ | ⟨l, hg⟩ | ⟨e, hg, _⟩
    · rw [hg]; simp at hN; dsimp only; omega
    · rw [hg]
      have : l.length ≤ 1000 := by
        unfold getS at hg
        cases hs : spl 0 (d.drop (10 + restN (bt d 0) (bt d 2) (bt d 3)).toNat) with
        | error e => rw [hs] at hg; cases hg
        | ok tl =>
          rw [hs] at hg
          have h2 := (spl_ok _ 0 tl hs).2
          have h3 := keep_length tl
          simp at h2
          dsimp only at hg
          unfold endS at hg
          split at hg
          · obtain ⟨h, _⟩ := Prod.mk.inj hg; rw [← h]; simp
          · obtain ⟨h, _⟩ := Prod.mk.inj hg; rw [← h]; omega
      exact this
    · rw [hg]; simp
theorem routeGets_pure (x0 : S_api_Tlv) (g0 : Good_api_Tlv x0) : g_law21_RouteGets (x0, ()) = some ((true, ()), ()) := by
  rw [g_law21_RouteGets_eq, awake21, Option.bind_some]
  by_cases h1 : x0.type_ < 8
  · rw [ifd h1]
  by_cases h2 : 10 < x0.type_
  · rw [ifn h1, ifd h2]
  by_cases h3 : (300 : Int) < x0.data.length
  · rw [ifn h1, ifn h2, ifd h3]
  obtain ⟨t, a, d⟩ := x0
  dsimp only at h1 h2 h3 ⊢
  rw [ifn h1, ifn h2, ifn h3]
  by_cases h8 : t = 8
  · have hs := takeG_subs d (by omega)
    rw [if_pos (show (t == 8) = true by simp [h8]), take_is (by omega), Option.bind_some, rtake_is (by omega), Option.bind_some, Option.bind_some]
    dsimp only [trip]
    rw [ift, raw_refl (by omega), Option.bind_some, ift]
    simp
  · have ht : t = 9 ∨ t = 10 := by omega
    have hl : (routeG t d).1.list.length ≤ 1000 ∧ (routeG t d).1.subs.length ≤ 1000 := by
      rcases routeG_cases (d := d) ht (by omega) with ⟨m, e, _, g, _⟩ | ⟨x, e⟩
      · rw [e]; exact ⟨g.few.list, g.few.subs⟩
      · rw [e]; exact ⟨by simp, by simp⟩
    rw [if_neg (show ¬ (t == 8) = true by simp [h8]), getR_is (by omega) ht, Option.bind_some, rgetR_is (by omega) ht, Option.bind_some, Option.bind_some]
    dsimp only [trip]
    rw [ift, same_is (by omega) (by omega), eqB_refl, Option.bind_some, ift]
    simp
end Go.VP
