/- RIP: bytes and routes, there and back. -/
import Derived.Test.YtnjhhopdiopbfaaPBase
import Derived.Test.YtnjhhopdiopbfaaPCur
import Derived.Test.YtnjhhopdiopbfaaPOct
import Derived.Test.YtnjhhopdiopbfaaPTlv
import Derived.Test.YtnjhhopdiopbfaaPSub
import Derived.Test.YtnjhhopdiopbfaaPMsg
import Derived.Test.YtnjhhopdiopbfaaPBits
import Derived.Test.YtnjhhopdiopbfaaPRipA
import Derived.Test.YtnjhhopdiopbfaaPRipB
import Derived.Test.YtnjhhopdiopbfaaPRipC
import Derived.Test.YtnjhhopdiopbfaaPRipD
import Derived.Test.YtnjhhopdiopbfaaPRipE
import Derived.Test.YtnjhhopdiopbfaaPRipF
set_option linter.unusedVariables false
set_option linter.unusedSimpArgs false
set_option maxRecDepth 100000
namespace Go.VP
open Go Go.VI
theorem bare_routeM (c v : Int) (s : Bs) (e : Ent) : bareB (routeM c v s e) = true := by
  have : bareOf (routeM c v s e) = some (routeM c v s e) := by unfold bareOf; rw [if_pos (show (routeM c v s e).kind = 1 from rfl)]; rfl
  unfold bareB; rw [this]; exact eqB_refl _
theorem cut_app (s : Bs) (p q : Nat) (n m : Nat) (h : q = p + n) : cut_ s p n ++ cut_ s q m = cut_ s p (n + m : Nat) := by
  subst h
  unfold cut_
  rw [show ((p : Int) + (n : Int)).toNat = p + n by omega, show (((p + n : Nat) : Int) + (m : Int)).toNat = p + n + m by omega, show ((p : Int) + ((n + m : Nat) : Int)).toNat = p + n + m by omega, Int.toNat_natCast, Int.toNat_natCast]
  rw [List.drop_take, List.drop_take, List.drop_take, ← List.drop_drop, show p + n - p = n by omega, show p + n + m - (p + n) = m by omega, show p + n + m - p = n + m by omega, List.take_add]
theorem be2_cut {s : Bs} {p : Nat} (h : p + 2 ≤ s.length) : be 2 (num (cut_ s p 2)) = cut_ s p 2 := be_num 2 _ (cut_len (n := 2) h)
theorem be4_cut {s : Bs} {p : Nat} (h : p + 4 ≤ s.length) : be 4 (num (cut_ s p 4)) = cut_ s p 4 := be_num 4 _ (cut_len (n := 4) h)
theorem entB_entF {s : Bs} (h : s.length = 20) : entB (entF s) = s := by
  unfold entB entF
  dsimp only
  have a := be2_cut (s := s) (p := 0) (by omega)
  have b := be2_cut (s := s) (p := 2) (by omega)
  have c := be4_cut (s := s) (p := 16) (by omega)
  rw [show ((0 : Nat) : Int) = 0 from rfl] at a
  rw [show ((2 : Nat) : Int) = 2 from rfl] at b
  rw [show ((16 : Nat) : Int) = 16 from rfl] at c
  rw [a, b, c]
  have e1 : cut_ s 0 2 ++ cut_ s 2 2 = cut_ s 0 4 := cut_app s 0 2 2 2 rfl
  have e2 : cut_ s 0 4 ++ cut_ s 4 4 = cut_ s 0 8 := cut_app s 0 4 4 4 rfl
  have e3 : cut_ s 0 8 ++ cut_ s 8 4 = cut_ s 0 12 := cut_app s 0 8 8 4 rfl
  have e4 : cut_ s 0 12 ++ cut_ s 12 4 = cut_ s 0 16 := cut_app s 0 12 12 4 rfl
  have e5 : cut_ s 0 16 ++ cut_ s 16 4 = cut_ s 0 20 := cut_app s 0 16 16 4 rfl
  have f : cut_ s 0 20 = s := by unfold cut_; simp [← h]
  rw [e1, e2, e3, e4, e5, f]
/-- An entry that makes a route: it may be, and has these bytes. -/
theorem route_good {c v : Int} {s : Bs} {al : Bool} {e : Ent} (h : EntOk e) (hc : c = 1 ∨ c = 2) (hv : v = 1 ∨ v = 2) (hs : s = [] ∨ (v = 2 ∧ s.length = 18)) (he : errR c v s al e = 0) : okR (routeM c v s e) ∧ entM (routeM c v s e) = e ∧ (e.family = 0 → al = true) := by
  unfold errR at he
  by_cases f0 : e.family = 0
  · rw [if_pos f0] at he
    split at he
    · rename_i hh
      obtain ⟨ha, hm, ho⟩ := hh
      refine ⟨ho, ?_, fun _ => ha⟩
      unfold entM routeM
      dsimp only
      rw [if_neg (by omega), ← hm]
    · simp at he
  rw [if_neg f0] at he
  split at he
  · simp at he
  rename_i f2
  have f2 : e.family = 2 := by omega
  have h1 := h.tag
  by_cases v1 : v = 1
  · rw [if_pos v1] at he
    split at he
    · simp at he
    rename_i hz
    split at he
    · simp at he
    rename_i hm
    have hz1 : e.tag = 0 := by grind
    have hz2 : e.mask = z4 := by grind
    have hz3 : e.next = z4 := by grind
    refine ⟨⟨rfl, bare_routeM .., hc, hv, h.addr, h.next, hs, .inr ⟨f2, ?_, ?_, .inl ⟨v1, hz1, ?_, hz3⟩⟩⟩, ?_, fun c => absurd c f0⟩
    · show 1 ≤ e.metric; omega
    · show e.metric ≤ 16; omega
    · show (if e.family = 0 then (0 : Int) else if v = 1 then 32 else (plenF e.mask).1) = 32
      rw [if_neg f0, if_pos v1]
    · unfold entM routeM
      dsimp only
      rw [if_neg (by omega), ← hz2]
  · rw [if_neg v1] at he
    split at he
    · simp at he
    rename_i hp
    split at he
    · simp at he
    rename_i hm
    have hp1 : (plenF e.mask).2 = true := by grind
    have hp2 : cleanB e.addr (plenF e.mask).1 = true := by grind
    have hk := plenF_ok hp1
    have hpl : (routeM c v s e).plen = (plenF e.mask).1 := by
      show (if e.family = 0 then (0 : Int) else if v = 1 then 32 else (plenF e.mask).1) = _
      rw [if_neg f0, if_neg v1]
    refine ⟨⟨rfl, bare_routeM .., hc, hv, h.addr, h.next, hs, .inr ⟨f2, ?_, ?_, .inr ⟨?_, ?_, ?_, ?_, ?_, ?_⟩⟩⟩, ?_, fun c => absurd c f0⟩
    · show 1 ≤ e.metric; omega
    · show e.metric ≤ 16; omega
    · show v = 2; omega
    · show 0 ≤ e.tag; omega
    · show e.tag ≤ 65535; omega
    · rw [hpl]; omega
    · rw [hpl]; omega
    · rw [hpl]; exact hp2
    · unfold entM
      rw [hpl, if_pos (show (routeM c v s e).family = 2 ∧ (routeM c v s e).ver = 2 from ⟨f2, by show v = 2; omega⟩), hk.2.2]; rfl
/-- The routes of k entries: they may be, and have these bytes. -/
theorem go_good {c v : Int} {s : Bs} {al : Bool} {b : Bs} (hc : c = 1 ∨ c = 2) (hv : v = 1 ∨ v = 2) (hs : s = [] ∨ (v = 2 ∧ s.length = 18)) : ∀ (k at_ : Nat) (acc : List Msg), at_ + 20 * k = b.length → (goR (rt c v s al) b k at_ acc).2.2 = 0 →
    ∃ r, (goR (rt c v s al) b k at_ acc) = (acc ++ r, 0, 0) ∧ r.length = k ∧ (∀ m ∈ r, okR m ∧ m.cmd = c ∧ m.ver = v ∧ m.auth = s ∧ (m.family = 0 → al = true)) ∧ r.flatMap lineF = b.drop at_
  | 0, at_, acc, h, _ => ⟨[], by simp [goR], rfl, by simp, by simp; omega⟩
  | k + 1, at_, acc, h, he => by
    have hl : (cut_ b at_ 20).length = 20 := cut_len (n := 20) (by omega)
    rw [goR] at he ⊢
    by_cases h0 : (rt c v s al (entF (cut_ b at_ 20))).2 = 0
    · rw [if_neg (fun c => c h0)] at he ⊢
      obtain ⟨r, h1, h2, h3, h4⟩ := go_good hc hv hs k (at_ + 20) _ (by omega) he
      obtain ⟨o1, o2, o3⟩ := route_good (al := al) (entF_ok hl) hc hv hs h0
      refine ⟨routeM c v s (entF (cut_ b at_ 20)) :: r, by rw [h1]; simp [rt], by simp [h2], fun m hm => ?_, ?_⟩
      · rcases List.mem_cons.1 hm with rfl | hm
        · exact ⟨o1, rfl, rfl, rfl, o3⟩
        · exact h3 m hm
      · rw [List.flatMap_cons, h4]
        unfold lineF
        rw [o2, entB_entF hl]
        have : cut_ b at_ 20 = (b.drop at_).take 20 := by
          unfold cut_
          rw [show ((at_ : Int) + 20).toNat = at_ + 20 by omega, Int.toNat_natCast, List.drop_take, show at_ + 20 - at_ = 20 by omega]
        rw [this, ← List.drop_drop, List.take_append_drop]
    · rw [if_pos h0] at he; exact absurd he h0
/-- Routes that stand together have their entries' bytes, one behind the other. -/
theorem enc_good {f : Msg} {most : Int} : ∀ (l : List Msg) (i : Nat) (acc : Bs), (i + l.length : Nat) ≤ most → (∀ (j : Nat) (h : j < l.length), 0 < i + j → togP f l[j]) → encGo f most l i acc = (acc ++ l.flatMap lineF, 0, 0)
  | [], i, acc, _, _ => by simp [encGo]
  | m :: r, i, acc, h, ht => by
    rw [encGo, if_neg (by simp at h; omega), if_neg (fun c => c.2 (ht 0 (by simp) (by omega))), enc_good r (i + 1) _ (by simp at h ⊢; omega) (fun j hj _ => by
      have := ht (j + 1) (by simp; omega) (by omega)
      simpa using this)]
    simp
end Go.VP
