import Derived.Test.YthmafkkiefndnaaGreatKFQ15
import Derived.Test.YthmafkkiefndnaaGreatKM0
import Derived.Test.YthmafkkiefndnaaGreatKM1
import Derived.Test.YthmafkkiefndnaaGreatKFH
import Derived.Test.YthmafkkiefndnaaGreatKM2
import Derived.Test.YthmafkkiefndnaaGreatKM3
import Derived.Test.YthmafkkiefndnaaGreatKFGood
set_option linter.unusedVariables false
set_option linter.unusedSimpArgs false
set_option maxRecDepth 100000
namespace Go.VP
open Go Go.VI
theorem again_loop {n : Nat} {p : Int} {b : Bs} {r : (List Msg × Int × Int × Unit) × Unit} (hr : r = (trip (parseP p b), ())) (hb : b.length ≤ 1500) (h : (parseP p b).2.2 = 0) : ∀ (d k i : Nat), i + d = (parseP p b).1.length → d < k → L_law26_SuiteAgain_0 n k b r p i = some ((true, ()), ()) := by
  obtain ⟨_, k1, k2, k3⟩ := p_parsed (by omega) h
  obtain ⟨a1, a2⟩ := p_again (by omega) h
  obtain ⟨c1, c2⟩ := p_back a1
  have hgp : ∀ m ∈ (parseP p b).1, GoodP p m := fun m hm => (k1 m hm).2.1
  have hsm : ∀ m ∈ (parseP p b).1, Small m := fun m hm => (k1 m hm).2.2
  intro d
  induction d with
  | zero =>
    intro k i hd hk
    obtain ⟨k, rfl⟩ : ∃ j, k = j + 1 := ⟨k - 1, by omega⟩
    subst hr
    rw [L_law26_SuiteAgain_0_eq]
    dsimp only [trip]
    rw [ifn (by omega), senc_is hgp (by omega) k3, Option.bind_some]
    dsimp only [trip]
    rw [sparse_is (by omega), Option.bind_some, c1]
    dsimp only [trip]
    rw [senc_is hgp (by omega) k3, Option.bind_some]
    dsimp only [trip]
    rw [sameA_is (by omega) hsm, awb26]
    refine bq_step (fun q => ?_) (fun q => ?_)
    · rw [if_neg (by rw [a2 (.inl q)]; simp)]
      rw [ift]
      refine bq_step (fun _ => ?_) (fun q => absurd a1 q)
      refine bq_step (fun _ => ?_) (fun q => absurd rfl q)
      refine bq_step (fun _ => ?_) (fun q => absurd a1 q)
      rw [Option.bind_some]
      dsimp only
      rw [ift]
      simp
    refine bq_step (fun q => ?_) (fun q => ?_)
    · rw [if_neg (by rw [a2 (.inr q)]; simp)]
      rw [ift]
      refine bq_step (fun _ => ?_) (fun q => absurd a1 q)
      refine bq_step (fun _ => ?_) (fun q => absurd rfl q)
      refine bq_step (fun _ => ?_) (fun q => absurd a1 q)
      rw [Option.bind_some]
      dsimp only
      rw [ift]
      simp
    rw [ift]
    refine bq_step (fun _ => ?_) (fun q => absurd a1 q)
    refine bq_step (fun _ => ?_) (fun q => absurd rfl q)
    refine bq_step (fun _ => ?_) (fun q => absurd a1 q)
    rw [Option.bind_some]
    dsimp only
    rw [ift]
    simp
  | succ d ih =>
    intro k i hd hk
    obtain ⟨k, rfl⟩ : ∃ j, k = j + 1 := ⟨k - 1, by omega⟩
    have hi : i < (parseP p b).1.length := by omega
    have g := k1 _ (List.getElem_mem hi)
    have := ih k (i + 1) (by omega) (by omega)
    rw [show ((i + 1 : Nat) : Int) = (i : Int) + 1 by omega] at this
    subst hr
    rw [L_law26_SuiteAgain_0_eq]
    dsimp only [trip]
    rw [ifd (by omega), if_pos (by omega), Int.toNat_natCast, bind_at hi, sright_p g.2.1, Option.bind_some, g.1]
    dsimp only
    rw [ifnt, w64 (by omega) (by omega)]
    exact this
theorem suiteAgain_pure (x0 : Int) (g0 : Good_uint8 x0) (x1 : List UInt8) (g1 : Good_string x1) : g_law26_SuiteAgain (x0, x1, ()) = some ((true, ()), ()) := by
  show h_law26_SuiteAgain fuel _ = _
  rw [h_law26_SuiteAgain_eq]
  refine dq_step' (fun _ => awb26 _) (fun h => ?_)
  generalize IntKind.wrap .i64 (1 + IntKind.wrap .i64 (x0.tmod 4)) = k
  rw [sparse_is (by omega), Option.bind_some]
  refine ne_step (fun he => ?_) (fun he => ?_)
  · obtain ⟨e1, e2, e3⟩ := p_parseerr (p := k) (b := x1) he
    rw [awb26]
    dsimp only [trip]
    rw [ift, e1, if_pos (by simp), ifd e2, decide_eq_true e3]
  · have hl := (p_parsed (p := k) (b := x1) (by omega) he).2.2.1
    exact again_loop (n := fuel) rfl (by omega) he (parseP k x1).1.length fuel 0 (by omega) (fuel_ge (by omega))
end Go.VP
