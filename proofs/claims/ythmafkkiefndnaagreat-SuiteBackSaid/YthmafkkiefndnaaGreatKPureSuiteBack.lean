import Derived.Test.YthmafkkiefndnaaGreatKFQ15
import Derived.Test.YthmafkkiefndnaaGreatKM0
import Derived.Test.YthmafkkiefndnaaGreatKM1
import Derived.Test.YthmafkkiefndnaaGreatKFH
import Derived.Test.YthmafkkiefndnaaGreatKM2
import Derived.Test.YthmafkkiefndnaaGreatKM3
import Derived.Test.YthmafkkiefndnaaGreatKFGood
set_option linter.unusedVariables false
set_option linter.unusedSimpArgs false
set_option maxRecDepth 100000
namespace Go.VP
open Go Go.VI
theorem suiteBack_pure (x0 : Int) (g0 : Good_uint8 x0) (x1 : List S_api_Msg) (g1 : Good_list_api_Msg x1) : g_law26_SuiteBack (x0, x1, ()) = some ((true, ()), ()) := by
  have g1 : ∀ m ∈ x1, Good_api_Msg m := g1.1.2
  rw [g_law26_SuiteBack_eq]
  obtain ⟨b, hb, hb'⟩ := fewA_is (a := x1) (k := 30) (by omega) (fun m hm => goodMsgA (g1 m hm))
  rw [hb, Option.bind_some]
  dsimp only
  cases b with
  | false => rw [ifnf]; exact awb26 _
  | true =>
  obtain ⟨hl, hf⟩ := hb' rfl
  generalize IntKind.wrap .i64 (1 + IntKind.wrap .i64 (x0.tmod 4)) = k
  have hg : ∀ m ∈ x1, GoodQ m := fun m hm => goodQ (g1 m hm) (hf m hm)
  rw [ifnt, senc_is (fun m hm => (hg m hm).p k) (by omega) (fun _ => by omega), Option.bind_some]
  dsimp only [trip]
  refine ne_step (fun he => ?_) (fun he => ?_)
  · obtain ⟨e1, e2, e3⟩ := p_encerr he
    rw [awb26]
    dsimp only
    rw [ift, e1, if_pos (by simp), ifd e2, decide_eq_true e3]
  · obtain ⟨k1, k2⟩ := p_back he
    rw [sparse_is (by omega), Option.bind_some, awb26, k1]
    dsimp only [trip]
    rw [ift]
    refine bq_step (fun _ => ?_) (fun q => absurd rfl q)
    rw [sameA_is (by omega) (fun m hm => (hg m hm).lean.small), Option.bind_some]
    dsimp only
    rw [ift, decide_eq_true (by omega)]
end Go.VP
