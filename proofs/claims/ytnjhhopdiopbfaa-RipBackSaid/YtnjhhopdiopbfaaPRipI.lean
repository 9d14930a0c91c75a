/- RIP: routes that have a datagram come back of it. -/
import Derived.Test.YtnjhhopdiopbfaaPBase
import Derived.Test.YtnjhhopdiopbfaaPCur
import Derived.Test.YtnjhhopdiopbfaaPOct
import Derived.Test.YtnjhhopdiopbfaaPTlv
import Derived.Test.YtnjhhopdiopbfaaPSub
import Derived.Test.YtnjhhopdiopbfaaPMsg
import Derived.Test.YtnjhhopdiopbfaaPBits
import Derived.Test.YtnjhhopdiopbfaaPRipA
import Derived.Test.YtnjhhopdiopbfaaPRipB
import Derived.Test.YtnjhhopdiopbfaaPRipC
import Derived.Test.YtnjhhopdiopbfaaPRipD
import Derived.Test.YtnjhhopdiopbfaaPRipE
import Derived.Test.YtnjhhopdiopbfaaPRipF
import Derived.Test.YtnjhhopdiopbfaaPRipG
import Derived.Test.YtnjhhopdiopbfaaPRipH
set_option linter.unusedVariables false
set_option linter.unusedSimpArgs false
set_option maxRecDepth 100000
namespace Go.VP
open Go Go.VI
theorem encGo_err {f : Msg} {most : Int} : ∀ (l : List Msg) (i : Nat) (acc : Bs), (encGo f most l i acc).2.2 ≠ 0 → (encGo f most l i acc).1 = [] ∧ 0 ≤ (encGo f most l i acc).2.1 ∧ (encGo f most l i acc).2.1 ≤ ((i + l.length : Nat) : Int)
  | [], i, acc, h => absurd rfl h
  | m :: r, i, acc, h => by
    rw [encGo] at h ⊢
    by_cases h1 : (i : Int) = most
    · rw [if_pos h1]; exact ⟨rfl, by dsimp only; omega, by dsimp only; omega⟩
    · rw [if_neg h1] at h ⊢
      by_cases h2 : 0 < i ∧ ¬ togP f m
      · rw [if_pos h2]; exact ⟨rfl, by dsimp only; omega, by dsimp only; omega⟩
      · rw [if_neg h2] at h ⊢
        have := encGo_err r (i + 1) _ h
        refine ⟨this.1, this.2.1, ?_⟩
        have := this.2.2
        simp only [List.length_cons]; omega
theorem encR_err {l : List Msg} (h : (encR l).2.2 ≠ 0) : (encR l).1 = [] ∧ 0 ≤ (encR l).2.1 ∧ (encR l).2.1 ≤ l.length := by
  unfold encR at h ⊢
  cases hb : badR l 0 with
  | some i =>
    have := badR_some hb
    exact ⟨rfl, by dsimp only; omega, by dsimp only; omega⟩
  | none =>
    rw [hb] at h
    cases l with
    | nil => exact ⟨rfl, by simp, by simp⟩
    | cons f r =>
      have := encGo_err _ _ _ h
      simpa using this
theorem encGo_ok {f : Msg} {most : Int} : ∀ (l : List Msg) (i : Nat) (acc : Bs), (i : Int) ≤ most → (encGo f most l i acc).2.2 = 0 → ((i + l.length : Nat) : Int) ≤ most ∧ (∀ (j : Nat) (h : j < l.length), 0 < i + j → togP f l[j])
  | [], i, acc, hi, h => ⟨by simpa using hi, fun j hj => by simp at hj⟩
  | m :: r, i, acc, hi, h => by
    rw [encGo] at h
    by_cases h1 : (i : Int) = most
    · rw [if_pos h1] at h; simp at h
    · rw [if_neg h1] at h
      by_cases h2 : 0 < i ∧ ¬ togP f m
      · rw [if_pos h2] at h; simp at h
      · rw [if_neg h2] at h
        obtain ⟨a, b⟩ := encGo_ok r (i + 1) _ (by omega) h
        refine ⟨by simp only [List.length_cons]; omega, fun j hj h0 => ?_⟩
        cases j with
        | zero =>
          show togP f m
          exact Classical.byContradiction fun c => h2 ⟨by omega, c⟩
        | succ j =>
          have := b j (by simpa using hj) (by omega)
          simpa using this
theorem num_be2 {n : Int} (h : 0 ≤ n ∧ n ≤ 65535) : num (be 2 n) = n := num_be 2 n h.1 (by omega)
theorem num_be4 {n : Int} (h : 0 ≤ n ∧ n ≤ 4294967295) : num (be 4 n) = n := num_be 4 n h.1 (by omega)
theorem cut_at (a m z : Bs) (p n : Int) (hp : p = a.length) (hn : n = m.length) : cut_ (a ++ (m ++ z)) p n = m := by
  subst hp; subst hn
  unfold cut_
  rw [show ((a.length : Int) + (m.length : Int)).toNat = a.length + m.length by omega, Int.toNat_natCast, ← List.append_assoc, List.take_left' (by simp), List.drop_left' rfl]
theorem entF_entB {e : Ent} (h : EntOk e) : entF (entB e) = e := by
  obtain ⟨a, b, c, d, f, g⟩ := e
  have h1 := h.addr; have h2 := h.mask; have h3 := h.next; have h4 := h.fam; have h5 := h.tag; have h6 := h.metric
  dsimp only at h1 h2 h3 h4 h5 h6
  have l2 := be_length 2
  have l4 := be_length 4
  have c1 : cut_ (entB ⟨a, b, c, d, f, g⟩) 0 2 = be 2 a := by
    have := cut_at [] (be 2 a) (be 2 b ++ (c ++ (d ++ (f ++ be 4 g)))) 0 2 rfl (by rw [l2]; rfl)
    rw [← this]; unfold entB; simp only [List.append_assoc, List.nil_append]
  have c2 : cut_ (entB ⟨a, b, c, d, f, g⟩) 2 2 = be 2 b := by
    have := cut_at (be 2 a) (be 2 b) (c ++ (d ++ (f ++ be 4 g))) 2 2 (by rw [l2]; rfl) (by rw [l2]; rfl)
    unfold entB; simp only [List.append_assoc] at this ⊢; exact this
  have c3 : cut_ (entB ⟨a, b, c, d, f, g⟩) 4 4 = c := by
    have := cut_at (be 2 a ++ be 2 b) c (d ++ (f ++ be 4 g)) 4 4 (by simp [l2]) (by rw [h1]; rfl)
    unfold entB; simp only [List.append_assoc] at this ⊢; exact this
  have c4 : cut_ (entB ⟨a, b, c, d, f, g⟩) 8 4 = d := by
    have := cut_at (be 2 a ++ be 2 b ++ c) d (f ++ be 4 g) 8 4 (by simp [l2, h1]) (by rw [h2]; rfl)
    unfold entB; simp only [List.append_assoc] at this ⊢; exact this
  have c5 : cut_ (entB ⟨a, b, c, d, f, g⟩) 12 4 = f := by
    have := cut_at (be 2 a ++ be 2 b ++ c ++ d) f (be 4 g) 12 4 (by simp [l2, h1, h2]) (by rw [h3]; rfl)
    unfold entB; simp only [List.append_assoc] at this ⊢; exact this
  have c6 : cut_ (entB ⟨a, b, c, d, f, g⟩) 16 4 = be 4 g := by
    have := cut_at (be 2 a ++ be 2 b ++ c ++ d ++ f) (be 4 g) [] 16 4 (by simp [l2, h1, h2, h3]) (by rw [l4]; rfl)
    rw [← this]; unfold entB; simp only [List.append_assoc, List.append_nil]
  unfold entF
  rw [c1, c2, c3, c4, c5, c6, num_be2 h4, num_be2 h5, num_be4 h6]
theorem bare_back {m : Msg} (h1 : m.kind = 1) (h : bareB m = true) : m = ⟨1, m.cmd, m.ver, m.auth, m.family, 0, m.prefix_, m.plen, m.tag, m.next, m.metric, [], 0, 0, 0, 0, 0, 0, 0, [], [], [], 0, [], []⟩ := by
  have hb : bareOf m = some ⟨m.kind, m.cmd, m.ver, m.auth, m.family, 0, m.prefix_, m.plen, m.tag, m.next, m.metric, [], 0, 0, 0, 0, 0, 0, 0, [], [], [], 0, [], []⟩ := by unfold bareOf; rw [if_pos h1]
  unfold bareB at h
  rw [hb] at h
  have := eqB_true'.1 h
  rw [h1] at this
  exact this
theorem route_back {m : Msg} {al : Bool} (h : okR m) (ha : m.family = 0 → al = true) : rt m.cmd m.ver m.auth al (entM m) = (m, 0) := by
  have hb := bare_back h.1 h.2.1
  have ho := h
  obtain ⟨_, _, hc, hv, hp, hn, hau, hx⟩ := h
  have hM : routeM m.cmd m.ver m.auth (entM m) = m := by
    have hpl : (if (entM m).family = 0 then (0 : Int) else if m.ver = 1 then 32 else (plenF (entM m).mask).1) = m.plen := by
      show (if m.family = 0 then (0 : Int) else if m.ver = 1 then 32 else (plenF (if m.family = 2 ∧ m.ver = 2 then maskF m.plen else z4)).1) = m.plen
      rcases hx with ⟨f0, _, _, p0, _⟩ | ⟨f2, _, _, ⟨v1, _, p32, _⟩ | ⟨v2, _, _, p1, p2, _⟩⟩
      · rw [if_pos f0, p0]
      · rw [if_neg (by omega), if_pos v1, p32]
      · rw [if_neg (by omega), if_neg (by omega), if_pos ⟨f2, v2⟩, plenF_maskF p1 p2]
    unfold routeM
    rw [hpl]
    exact hb.symm
  unfold rt
  rw [hM]
  have : errR m.cmd m.ver m.auth al (entM m) = 0 := by
    unfold errR
    rw [hM]
    rcases hx with ⟨f0, _, _, p0, _⟩ | ⟨f2, m1, m2, ⟨v1, t0, p32, nz⟩ | ⟨v2, _, _, p1, p2, hcl⟩⟩
    · rw [if_pos (show (entM m).family = 0 from f0), if_pos ⟨ha f0, by show (if m.family = 2 ∧ m.ver = 2 then maskF m.plen else z4) = z4; rw [if_neg (by omega)], ho⟩]
    · have e1 : (entM m).mask = z4 := by show (if m.family = 2 ∧ m.ver = 2 then maskF m.plen else z4) = z4; rw [if_neg (by omega)]
      rw [if_neg (show ¬ (entM m).family = 0 by show ¬ m.family = 0; omega), if_neg (show ¬ (entM m).family ≠ 2 by show ¬ m.family ≠ 2; omega), if_pos v1, if_neg (by rintro (c | c | c); exact c t0; exact c e1; exact c nz), if_neg (show ¬ ((entM m).metric < 1 ∨ 16 < (entM m).metric) by show ¬ (m.metric < 1 ∨ 16 < m.metric); omega)]
    · have e1 : (entM m).mask = maskF m.plen := by show (if m.family = 2 ∧ m.ver = 2 then maskF m.plen else z4) = _; rw [if_pos ⟨f2, v2⟩]
      rw [if_neg (show ¬ (entM m).family = 0 by show ¬ m.family = 0; omega), if_neg (show ¬ (entM m).family ≠ 2 by show ¬ m.family ≠ 2; omega), if_neg (by omega), e1, plenF_maskF p1 p2, if_neg (fun c => c ⟨rfl, hcl⟩), if_neg (show ¬ ((entM m).metric < 1 ∨ 16 < (entM m).metric) by show ¬ (m.metric < 1 ∨ 16 < m.metric); omega)]
  rw [this]
theorem go_back {c v : Int} {s : Bs} {al : Bool} {b : Bs} : ∀ (l : List Msg) (at_ : Nat) (acc : List Msg), (∀ m ∈ l, okR m ∧ m.cmd = c ∧ m.ver = v ∧ m.auth = s ∧ (m.family = 0 → al = true)) → b.drop at_ = l.flatMap lineF → goR (rt c v s al) b l.length at_ acc = (acc ++ l, 0, 0)
  | [], at_, acc, _, _ => by simp [goR]
  | m :: r, at_, acc, hm, hd => by
    obtain ⟨h1, h2, h3, h4, h5⟩ := hm m (by simp)
    have hl := lineF_length h1
    rw [List.flatMap_cons] at hd
    have hcut : cut_ b at_ 20 = lineF m := by
      unfold cut_
      rw [show ((at_ : Int) + 20).toNat = at_ + 20 by omega, Int.toNat_natCast, List.drop_take, show at_ + 20 - at_ = 20 by omega, hd, List.take_left' hl]
    have hn : b.drop (at_ + 20) = r.flatMap lineF := by rw [← List.drop_drop, hd, List.drop_left' hl]
    have hr := route_back (al := al) h1 h5
    rw [h2, h3, h4] at hr
    rw [List.length_cons, goR, hcut]
    unfold lineF
    rw [entF_entB (entM_ok h1), hr, if_neg (by simp), go_back r (at_ + 20) _ (fun x hx => hm x (by simp [hx])) hn]
    simp
theorem flat_len : ∀ {l : List Msg}, (∀ m ∈ l, okR m) → (l.flatMap lineF).length = 20 * l.length
  | [], _ => rfl
  | m :: r, h => by
    rw [List.flatMap_cons, List.length_append, lineF_length (h m (by simp)), flat_len (fun x hx => h x (by simp [hx])), List.length_cons]; omega
theorem headR_of {b : Bs} (k1 : 24 ≤ b.length) (k2 : b.length ≤ 504) (k3 : bt b 0 = 1 ∨ bt b 0 = 2) (k4 : bt b 1 = 1 ∨ bt b 1 = 2) (k5 : bt b 2 = 0 ∧ bt b 3 = 0) (k7 : ((b.length : Int) - 4) % 20 = 0) : headR b = (0, 0) := by
  unfold headR
  rw [if_neg (by omega), if_neg (fun c => c k3), if_neg (fun c => c k4), if_neg (fun c => c k5), if_neg (by omega), if_neg (by omega), if_neg (by omega)]
/-- What is put of routes that stand together is read as these. -/
theorem parse_back {f : Msg} {r : List Msg} (hok : ∀ m ∈ f :: r, okR m) (ht : ∀ m ∈ r, togP f m) (hfam : f.family = 0 → r = []) (hlen : (((f :: r).length : Nat) : Int) ≤ mostR f) : parseR (headE f ++ (f :: r).flatMap lineF) = (f :: r, 0, 0) := by
  have hf := hok f (by simp)
  have hl := headE_length hf
  have hfl := flat_len hok
  have hfo := hf
  obtain ⟨_, _, hc, hv, _, _, hau, hx⟩ := hf
  have hmem : ∀ al : Bool, (r = [] → al = true) → ∀ m ∈ f :: r, okR m ∧ m.cmd = f.cmd ∧ m.ver = f.ver ∧ m.auth = f.auth ∧ (m.family = 0 → al = true) := fun al hal m hm => by
    refine ⟨hok m hm, ?_⟩
    rcases List.mem_cons.1 hm with rfl | hm
    · exact ⟨rfl, rfl, rfl, fun c => hal (hfam c)⟩
    · obtain ⟨t1, t2, t3, t4, _⟩ := ht m hm
      exact ⟨t1, t2, t3, fun c => absurd c t4⟩
  have ub : ∀ x : Int, x = 1 ∨ x = 2 → ((u8of (x % 256)).toNat : Int) = x := fun x hx => by rw [u8of_int]; omega
  have hline : ∃ p q t, lineF f = p :: q :: t ∧ ¬ (p = 255) := by
    have : be 2 f.family = [0, 0] ∨ be 2 f.family = [0, 2] := by
      rcases hx with ⟨f0, _⟩ | ⟨f2, _⟩
      · rw [f0]; exact .inl rfl
      · rw [f2]; exact .inr rfl
    unfold lineF entB entM
    dsimp only
    rcases this with e | e <;> rw [e] <;> exact ⟨_, _, _, rfl, by decide⟩
  by_cases ha : f.auth = []
  · have hE : headE f = [u8of (f.cmd % 256), u8of (f.ver % 256), 0, 0] := by unfold headE; rw [if_pos ha]; rfl
    rw [if_pos ha] at hl
    generalize hX : (f :: r).flatMap lineF = X at *
    have hb : headE f ++ X = u8of (f.cmd % 256) :: u8of (f.ver % 256) :: 0 :: 0 :: X := by rw [hE]; rfl
    rw [hb]
    have b0 : bt (u8of (f.cmd % 256) :: u8of (f.ver % 256) :: 0 :: 0 :: X) 0 = f.cmd := ub _ hc
    have b1 : bt (u8of (f.cmd % 256) :: u8of (f.ver % 256) :: 0 :: 0 :: X) 1 = f.ver := ub _ hv
    have b2 : bt (u8of (f.cmd % 256) :: u8of (f.ver % 256) :: 0 :: 0 :: X) 2 = 0 := rfl
    have b3 : bt (u8of (f.cmd % 256) :: u8of (f.ver % 256) :: 0 :: 0 :: X) 3 = 0 := rfl
    have dr : (u8of (f.cmd % 256) :: u8of (f.ver % 256) :: 0 :: 0 :: X).drop 4 = X := rfl
    have hL : (u8of (f.cmd % 256) :: u8of (f.ver % 256) :: 0 :: 0 :: X).length = 4 + 20 * (f :: r).length := by simp only [List.length_cons] at hfl ⊢; omega
    have hm25 : (f :: r).length ≤ 25 := by unfold mostR at hlen; rw [if_pos ha] at hlen; omega
    have h1 : 1 ≤ (f :: r).length := by simp
    have hna : ¬ authB (cut_ (u8of (f.cmd % 256) :: u8of (f.ver % 256) :: 0 :: 0 :: X) 4 20) = true := by
      have e : cut_ (u8of (f.cmd % 256) :: u8of (f.ver % 256) :: 0 :: 0 :: X) 4 20 = X.take 20 := by
        show ((u8of (f.cmd % 256) :: u8of (f.ver % 256) :: 0 :: 0 :: X).take 24).drop 4 = X.take 20
        rfl
      rw [e]
      obtain ⟨p, q, t, e1, e2⟩ := hline
      have : X = p :: q :: (t ++ r.flatMap lineF) := by rw [← hX, List.flatMap_cons, e1]; rfl
      rw [this]
      simp [authB, e2]
    generalize hB : u8of (f.cmd % 256) :: u8of (f.ver % 256) :: 0 :: 0 :: X = B at *
    unfold parseR
    rw [headR_of (by omega) (by omega) (by rw [b0]; exact hc) (by rw [b1]; exact hv) ⟨b2, b3⟩ (by omega), if_neg (by simp), if_neg (fun c => hna c.2), show (B.length - 4) / 20 = (f :: r).length by omega, b0, b1]
    have := go_back (c := f.cmd) (v := f.ver) (s := []) (al := decide (B.length = 24)) (b := B) (f :: r) 4 [] (by have := hmem (decide (B.length = 24)) (fun c => by rw [c] at hL; simp at hL; simp; omega); rw [ha] at this; exact this) (by rw [dr, hX])
    rw [this]; rfl
  · have h18 : f.ver = 2 ∧ f.auth.length = 18 := by rcases hau with h | h; exact absurd h ha; exact h
    have hE : headE f = [u8of (f.cmd % 256), u8of (f.ver % 256), 0, 0] ++ ([255, 255] ++ f.auth) := by unfold headE; rw [if_neg ha]
    rw [if_neg ha] at hl
    generalize hX : (f :: r).flatMap lineF = X at *
    have hb : headE f ++ X = u8of (f.cmd % 256) :: u8of (f.ver % 256) :: 0 :: 0 :: (([255, 255] ++ f.auth) ++ X) := by rw [hE]; rfl
    have dr : (headE f ++ X).drop 24 = X := List.drop_left' hl
    have hL : (headE f ++ X).length = 24 + 20 * (f :: r).length := by rw [List.length_append, hl, hfl]
    rw [hb] at dr hL ⊢
    generalize hY : ([255, 255] ++ f.auth) ++ X = Y at *
    have b0 : bt (u8of (f.cmd % 256) :: u8of (f.ver % 256) :: 0 :: 0 :: Y) 0 = f.cmd := ub _ hc
    have b1 : bt (u8of (f.cmd % 256) :: u8of (f.ver % 256) :: 0 :: 0 :: Y) 1 = f.ver := ub _ hv
    have b2 : bt (u8of (f.cmd % 256) :: u8of (f.ver % 256) :: 0 :: 0 :: Y) 2 = 0 := rfl
    have b3 : bt (u8of (f.cmd % 256) :: u8of (f.ver % 256) :: 0 :: 0 :: Y) 3 = 0 := rfl
    have hm24 : (f :: r).length ≤ 24 := by unfold mostR at hlen; rw [if_neg ha] at hlen; omega
    have h1 : 1 ≤ (f :: r).length := by simp
    have e : cut_ (u8of (f.cmd % 256) :: u8of (f.ver % 256) :: 0 :: 0 :: Y) 4 20 = [255, 255] ++ f.auth := by
      show Y.take 20 = _
      rw [← hY, List.take_left' (by simp [h18.2])]
    generalize hB : u8of (f.cmd % 256) :: u8of (f.ver % 256) :: 0 :: 0 :: Y = B at *
    unfold parseR
    rw [headR_of (by omega) (by omega) (by rw [b0]; exact hc) (by rw [b1]; exact hv) ⟨b2, b3⟩ (by omega), if_neg (by simp), e, if_pos ⟨by rw [b1]; exact h18.1, rfl⟩, if_neg (by omega), show (B.length - 24) / 20 = (f :: r).length by omega, b0, b1, show (([255, 255] : Bs) ++ f.auth).drop 2 = f.auth from rfl]
    have := go_back (c := f.cmd) (v := f.ver) (s := f.auth) (al := decide (B.length = 44)) (b := B) (f :: r) 24 [] (hmem _ (fun c => by rw [c] at hL; simp at hL; simp; omega)) (by rw [dr, hX])
    rw [this]; rfl
end Go.VP
