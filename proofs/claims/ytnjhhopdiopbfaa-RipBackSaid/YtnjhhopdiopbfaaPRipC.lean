/- RIP: the routes of bytes. -/
import Derived.Test.YtnjhhopdiopbfaaFQ2
import Derived.Test.YtnjhhopdiopbfaaFQ3
import Derived.Test.YtnjhhopdiopbfaaPBase
import Derived.Test.YtnjhhopdiopbfaaPCur
import Derived.Test.YtnjhhopdiopbfaaPOct
import Derived.Test.YtnjhhopdiopbfaaPTlv
import Derived.Test.YtnjhhopdiopbfaaPSub
import Derived.Test.YtnjhhopdiopbfaaPMsg
import Derived.Test.YtnjhhopdiopbfaaPBits
import Derived.Test.YtnjhhopdiopbfaaPRipA
import Derived.Test.YtnjhhopdiopbfaaPRipB
set_option linter.unusedVariables false
set_option linter.unusedSimpArgs false
set_option maxRecDepth 100000
namespace Go.VP
open Go Go.VI
abbrev Ent := S_api_Entry
def routeM (cmd ver : Int) (says : Bs) (e : Ent) : Msg := ⟨1, cmd, ver, says, e.family, 0, e.addr, (if e.family = 0 then 0 else if ver = 1 then 32 else (plenF e.mask).1), e.tag, e.next, e.metric, [], 0, 0, 0, 0, 0, 0, 0, [], [], [], 0, [], []⟩
open Classical in
noncomputable def errR (cmd ver : Int) (says : Bs) (alone : Bool) (e : Ent) : Int :=
  if e.family = 0 then (if alone = true ∧ e.mask = z4 ∧ okR (routeM cmd ver says e) then 0 else 7)
  else if e.family ≠ 2 then 4
  else if ver = 1 then (if e.tag ≠ 0 ∨ e.mask ≠ z4 ∨ e.next ≠ z4 then 5 else if e.metric < 1 ∨ 16 < e.metric then 6 else 0)
  else if ¬ ((plenF e.mask).2 = true ∧ cleanB e.addr (plenF e.mask).1 = true) then 7
  else if e.metric < 1 ∨ 16 < e.metric then 6 else 0
theorem lf {x : Msg} {v E : Int} {M : Msg} {R : Type} {S : R} (h : E = v) (h0 : v ≠ 0) : ∃ m', (some ((x, v, ()), S) : Option ((Msg × Int × Unit) × R)) = some ((m', E, ()), S) ∧ (E = 0 → m' = M) := ⟨x, by rw [h], fun e => absurd (h.symm.trans e) h0⟩
theorem lf0 {x : Msg} {E : Int} {M : Msg} {R : Type} {S : R} (hx : x = M) (h : E = 0) : ∃ m', (some ((x, 0, ()), S) : Option ((Msg × Int × Unit) × R)) = some ((m', E, ()), S) ∧ (E = 0 → m' = M) := ⟨M, by rw [h, hx], fun _ => rfl⟩
theorem lfs {R : Type} {S : R} {E v : Int} {M : Msg} {o : Option ((Msg × Int × Unit) × R)} {o' : Option ((Msg × Int × Unit) × R)} (h : o = o') (k : ∃ m', o' = some ((m', E, ()), S) ∧ (E = 0 → m' = M)) : ∃ m', o = some ((m', E, ()), S) ∧ (E = 0 → m' = M) := h ▸ k
structure EntOk (e : Ent) : Prop where
  fam : 0 ≤ e.family ∧ e.family ≤ 65535
  tag : 0 ≤ e.tag ∧ e.tag ≤ 65535
  addr : e.addr.length = 4
  mask : e.mask.length = 4
  next : e.next.length = 4
  metric : 0 ≤ e.metric ∧ e.metric ≤ 4294967295
theorem cut_len {s : Bs} {p n : Nat} (h : p + n ≤ s.length) : (cut_ s p n).length = n := by
  have := cut_length (s := s) (p := p) (n := n) (by omega) (by omega) (by omega)
  omega
theorem entF_ok {s : Bs} (h : s.length = 20) : EntOk (entF s) := by
  have h2 : ∀ p : Nat, p + 2 ≤ 20 → 0 ≤ num (cut_ s p 2) ∧ num (cut_ s p 2) ≤ 65535 := fun p hp => by
    have := num_rng (cut_ s p 2)
    have hl : (cut_ s p 2).length = 2 := cut_len (n := 2) (by omega)
    rw [hl] at this; omega
  have h4 := num_rng (cut_ s 16 4)
  have hl : (cut_ s 16 4).length = 4 := cut_len (p := 16) (n := 4) (by omega)
  rw [hl] at h4
  exact ⟨h2 0 (by omega), h2 2 (by omega), cut_len (p := 4) (n := 4) (by omega), cut_len (p := 8) (n := 4) (by omega), cut_len (p := 12) (n := 4) (by omega), by show 0 ≤ num (cut_ s 16 4) ∧ _; exact ⟨h4.1, by show num (cut_ s 16 4) ≤ _; omega⟩⟩
theorem routeM_rm {cmd ver : Int} {says : Bs} {e : Ent} (h : EntOk e) : RM (routeM cmd ver says e) := by
  have h1 := h.tag
  refine ⟨has64.2 (by show _ ≤ e.tag ∧ e.tag ≤ _; omega), ?_, by simp [routeM], by simp [routeM]⟩
  rw [has64]
  show _ ≤ (if e.family = 0 then (0 : Int) else if ver = 1 then 32 else (plenF e.mask).1) ∧ (if e.family = 0 then (0 : Int) else if ver = 1 then 32 else (plenF e.mask).1) ≤ _
  rcases plenF_cases e.mask with ⟨k, hk, _⟩ | ⟨hk, _⟩
  · rw [hk]; have := k.isLt; split
    · omega
    · split <;> simp <;> omega
  · rw [hk]; split
    · omega
    · split <;> simp
theorem route_is {cmd ver : Int} {says : Bs} {alone : Bool} {e : Ent} (h : EntOk e) :
    ∃ m', g_rip_reader_route (⟨cmd, ver, says, alone⟩, e, ()) = some ((m', errR cmd ver says alone e, ()), ((⟨cmd, ver, says, alone⟩ : S_rip_reader), ())) ∧ (errR cmd ver says alone e = 0 → m' = routeM cmd ver says e) := by
  have zm := zero4 h.mask
  have zz := zero8 h.mask h.next
  have rm := routeM_rm (cmd := cmd) (ver := ver) (says := says) h
  rw [g_rip_reader_route_eq]
  dsimp only
  by_cases f0 : e.family = 0
  · rw [if_pos (by simp [f0])]
    cases alone with
    | false => rw [ifnf]; exact lf (v := 7) (by unfold errR; rw [if_pos f0, if_neg (by simp)]) (by decide)
    | true =>
      rw [ifnt, zero_is (by have := h.mask; omega), Option.bind_some]
      dsimp only
      cases hz : zeroB e.mask with
      | false =>
        rw [ifnf]; exact lf (v := 7) (by unfold errR; rw [if_pos f0, if_neg (by rw [← zm, hz]; simp)]) (by decide)
      | true =>
        have hm := zm.1 hz
        have er : (⟨1, cmd, ver, says, e.family, 0, e.addr, 0, e.tag, e.next, e.metric, [], 0, 0, 0, 0, 0, 0, 0, [], [], [], 0, [], []⟩ : Msg) = routeM cmd ver says e := by unfold routeM; rw [if_pos f0]
        rw [ifnt, er, ripRight_is rm, Option.bind_some]
        dsimp only
        by_cases ho : okR (routeM cmd ver says e)
        · rw [rightR_true.2 ho, ifnt]
          exact lf0 rfl (by unfold errR; rw [if_pos f0, if_pos ⟨rfl, hm, ho⟩])
        · have : rightR (routeM cmd ver says e) = false := by cases e' : rightR (routeM cmd ver says e) with | false => rfl | true => exact absurd (rightR_true.1 e') ho
          rw [this, ifnf]
          exact lf (v := 7) (by unfold errR; rw [if_pos f0, if_neg (fun h => ho h.2.2)]) (by decide)
  · rw [if_neg (by simp [f0])]
    by_cases f2 : e.family = 2
    · rw [if_neg (by simp [f2])]
      by_cases v1 : ver = 1
      · subst v1
        rw [if_pos (by rfl)]
        by_cases t0 : e.tag = 0
        · rw [if_neg (by simp [t0]), if_pos (maxB_of (by have := h.mask; have := h.next; omega)), zero_is (by have := h.mask; have := h.next; simp; omega), Option.bind_some]
          dsimp only
          cases hz : zeroB (e.mask ++ e.next) with
          | false =>
            rw [ifnf]
            refine lf (v := 5) ?_ (by decide)
            unfold errR; rw [if_neg f0, if_neg (by omega), if_pos rfl, if_pos]
            by_cases hm : e.mask = z4
            · refine .inr (.inr fun hn => ?_); have := zz.2 ⟨hm, hn⟩; rw [hz] at this; cases this
            · exact .inr (.inl hm)
          | true =>
            have hm := zz.1 hz
            rw [ifnt]
            by_cases m1 : e.metric < 1
            · rw [ifd m1]; exact lf (v := 6) (by unfold errR; rw [if_neg f0, if_neg (by omega), if_pos rfl, if_neg (by grind), if_pos (.inl m1)]) (by decide)
            · rw [ifn m1]
              by_cases m2 : 16 < e.metric
              · rw [ifd m2]; exact lf (v := 6) (by unfold errR; rw [if_neg f0, if_neg (by omega), if_pos rfl, if_neg (by grind), if_pos (.inr m2)]) (by decide)
              · rw [ifn m2]; exact lf0 (by unfold routeM; rw [if_neg f0, if_pos rfl]) (by unfold errR; rw [if_neg f0, if_neg (by omega), if_pos rfl, if_neg (by grind), if_neg (by omega)])
        · rw [if_pos (by simp [t0])]
          exact lf (v := 5) (by unfold errR; rw [if_neg f0, if_neg (by omega), if_pos rfl, if_pos (.inl t0)]) (by decide)
      · rw [if_neg (by simp [v1]), plen_is h.mask, Option.bind_some]
        dsimp only
        cases hp : (plenF e.mask).2 with
        | false =>
          rw [ifnf]
          exact lf (v := 7) (by unfold errR; rw [if_neg f0, if_neg (by omega), if_neg v1, if_pos (by rw [hp]; simp)]) (by decide)
        | true =>
          have pr := plenF_ok hp
          rw [ifnt, pright4 h.addr (has64.2 (by omega)), Option.bind_some]
          dsimp only
          rw [decide_eq_true (show 0 ≤ (plenF e.mask).1 ∧ (plenF e.mask).1 ≤ 32 by omega), Bool.true_and]
          cases hc : cleanB e.addr (plenF e.mask).1 with
          | false =>
            rw [ifnf]
            exact lf (v := 7) (by unfold errR; rw [if_neg f0, if_neg (by omega), if_neg v1, if_pos (by rw [hc]; simp)]) (by decide)
          | true =>
            rw [ifnt]
            by_cases m1 : e.metric < 1
            · rw [ifd m1]; exact lf (v := 6) (by unfold errR; rw [if_neg f0, if_neg (by omega), if_neg v1, if_neg (by simp [hp, hc]), if_pos (.inl m1)]) (by decide)
            · rw [ifn m1]
              by_cases m2 : 16 < e.metric
              · rw [ifd m2]; exact lf (v := 6) (by unfold errR; rw [if_neg f0, if_neg (by omega), if_neg v1, if_neg (by simp [hp, hc]), if_pos (.inr m2)]) (by decide)
              · rw [ifn m2]; exact lf0 (by unfold routeM; rw [if_neg f0, if_neg v1]) (by unfold errR; rw [if_neg f0, if_neg (by omega), if_neg v1, if_neg (by simp [hp, hc]), if_neg (by omega)])
    · rw [if_pos (by simp [f2])]
      exact lf (v := 4) (by unfold errR; rw [if_neg f0, if_pos f2]) (by decide)
theorem rroute_is {cmd ver : Int} {says : Bs} {alone : Bool} {e : Ent} (h : EntOk e) :
    ∃ m', g_ref10_route (e, cmd, ver, says, alone, ()) = some ((m', errR cmd ver says alone e, ()), ()) ∧ (errR cmd ver says alone e = 0 → m' = routeM cmd ver says e) := by
  have rm := routeM_rm (cmd := cmd) (ver := ver) (says := says) h
  rw [g_ref10_route_eq]
  by_cases f0 : e.family = 0
  · rw [if_pos (by simp [f0])]
    cases alone with
    | false => rw [ifnf]; exact lf (v := 7) (by unfold errR; rw [if_pos f0, if_neg (by simp)]) (by decide)
    | true =>
      rw [ifnt, nought_is, Option.bind_some]
      dsimp only
      by_cases hm : e.mask = z4
      · have er : (⟨1, cmd, ver, says, e.family, 0, e.addr, 0, e.tag, e.next, e.metric, [], 0, 0, 0, 0, 0, 0, 0, [], [], [], 0, [], []⟩ : Msg) = routeM cmd ver says e := by unfold routeM; rw [if_pos f0]
        rw [if_neg (by simp [hm]), er, rripRight_is rm, Option.bind_some]
        dsimp only
        by_cases ho : okR (routeM cmd ver says e)
        · rw [rightR_true.2 ho, ifnt]
          exact lf0 rfl (by unfold errR; rw [if_pos f0, if_pos ⟨rfl, hm, ho⟩])
        · have : rightR (routeM cmd ver says e) = false := by cases e' : rightR (routeM cmd ver says e) with | false => rfl | true => exact absurd (rightR_true.1 e') ho
          rw [this, ifnf]
          exact lf (v := 7) (by unfold errR; rw [if_pos f0, if_neg (fun h => ho h.2.2)]) (by decide)
      · rw [if_pos (by simpa using hm)]
        exact lf (v := 7) (by unfold errR; rw [if_pos f0, if_neg (fun h => hm h.2.1)]) (by decide)
  · rw [if_neg (by simp [f0])]
    by_cases f2 : e.family = 2
    · rw [if_neg (by simp [f2])]
      by_cases v1 : ver = 1
      · subst v1
        rw [if_pos (by rfl)]
        by_cases t0 : e.tag = 0
        · rw [if_neg (by simp [t0]), nought_is, Option.bind_some]
          dsimp only
          by_cases hm : e.mask = z4
          · rw [if_neg (by simp [hm]), Option.bind_some]
            dsimp only
            by_cases hn : e.next = z4
            · rw [if_neg (by simp [hn])]
              by_cases m1 : e.metric < 1
              · rw [ifd m1]; exact lf (v := 6) (by unfold errR; rw [if_neg f0, if_neg (by omega), if_pos rfl, if_neg (by grind), if_pos (.inl m1)]) (by decide)
              · rw [ifn m1]
                by_cases m2 : 16 < e.metric
                · rw [ifd m2]; exact lf (v := 6) (by unfold errR; rw [if_neg f0, if_neg (by omega), if_pos rfl, if_neg (by grind), if_pos (.inr m2)]) (by decide)
                · rw [ifn m2]; exact lf0 (by unfold routeM; rw [if_neg f0, if_pos rfl]) (by unfold errR; rw [if_neg f0, if_neg (by omega), if_pos rfl, if_neg (by grind), if_neg (by omega)])
            · rw [if_pos (by simpa using hn)]
              exact lf (v := 5) (by unfold errR; rw [if_neg f0, if_neg (by omega), if_pos rfl, if_pos (.inr (.inr hn))]) (by decide)
          · rw [if_pos (by simpa using hm)]
            exact lf (v := 5) (by unfold errR; rw [if_neg f0, if_neg (by omega), if_pos rfl, if_pos (.inr (.inl hm))]) (by decide)
        · rw [if_pos (by simp [t0])]
          exact lf (v := 5) (by unfold errR; rw [if_neg f0, if_neg (by omega), if_pos rfl, if_pos (.inl t0)]) (by decide)
      · rw [if_neg (by simp [v1]), rplen_is, Option.bind_some]
        dsimp only
        cases hp : (plenF e.mask).2 with
        | false =>
          rw [ifnf]
          exact lf (v := 7) (by unfold errR; rw [if_neg f0, if_neg (by omega), if_neg v1, if_pos (by rw [hp]; simp)]) (by decide)
        | true =>
          have pr := plenF_ok hp
          rw [ifnt, rpright4 h.addr, Option.bind_some]
          dsimp only
          rw [decide_eq_true (show 0 ≤ (plenF e.mask).1 ∧ (plenF e.mask).1 ≤ 32 by omega), Bool.true_and]
          cases hc : cleanB e.addr (plenF e.mask).1 with
          | false =>
            rw [ifnf]
            exact lf (v := 7) (by unfold errR; rw [if_neg f0, if_neg (by omega), if_neg v1, if_pos (by rw [hc]; simp)]) (by decide)
          | true =>
            rw [ifnt]
            by_cases m1 : e.metric < 1
            · rw [ifd m1]; exact lf (v := 6) (by unfold errR; rw [if_neg f0, if_neg (by omega), if_neg v1, if_neg (by simp [hp, hc]), if_pos (.inl m1)]) (by decide)
            · rw [ifn m1]
              by_cases m2 : 16 < e.metric
              · rw [ifd m2]; exact lf (v := 6) (by unfold errR; rw [if_neg f0, if_neg (by omega), if_neg v1, if_neg (by simp [hp, hc]), if_pos (.inr m2)]) (by decide)
              · rw [ifn m2]; exact lf0 (by unfold routeM; rw [if_neg f0, if_neg v1]) (by unfold errR; rw [if_neg f0, if_neg (by omega), if_neg v1, if_neg (by simp [hp, hc]), if_neg (by omega)])
    · rw [if_pos (by simp [f2])]
      exact lf (v := 4) (by unfold errR; rw [if_neg f0, if_pos f2]) (by decide)
end Go.VP
