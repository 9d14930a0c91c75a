/- Fields' messages come back of their TLVs. -/
import Derived.Test.YtabekdfijifnfaaQPBase
import Derived.Test.YtabekdfijifnfaaQPCur
import Derived.Test.YtabekdfijifnfaaQPOct
import Derived.Test.YtabekdfijifnfaaQPTlv
import Derived.Test.YtabekdfijifnfaaQPSub
import Derived.Test.YtabekdfijifnfaaQPMsg
import Derived.Test.YtabekdfijifnfaaQPAddr
import Derived.Test.YtabekdfijifnfaaQPField
import Derived.Test.YtabekdfijifnfaaQPFieldG
set_option linter.unusedVariables false
set_option linter.unusedSimpArgs false
set_option maxRecDepth 100000
namespace Go.VP
open Go Go.VI
theorem keep_allR : ∀ {l : List Tlv}, ShortT l → AllR (keep l)
  | [], _ => fun y hy => by simp [keep] at hy
  | t :: l, h => by
    have ih := keep_allR (l := l) (fun z hz => h z (List.mem_cons_of_mem _ hz))
    intro y hy
    simp only [keep] at hy
    split at hy
    · rcases List.mem_cons.1 hy with rfl | hy
      · have := h t (List.mem_cons_self ..); dsimp only; omega
      · exact ih y hy
    · exact ih y hy
theorem spl_sum (s : Bs) : ∀ (p : Int) (l : List Tlv), spl p s = .ok l → sumN (keep l) ≤ s.length := by
  match s with
  | [] => intro p l h; rw [spl_nil] at h; injection h with h; subst h; simp [keep, sumN]
  | t :: r =>
    intro p l h
    have go : ∀ (q : Int) (x : Tlv) (r' : Bs), r'.length < (t :: r).length → (x.type_ = 0 ∨ r'.length + 2 + x.data.length ≤ (t :: r).length) → (spl q r').map (x :: ·) = .ok l → sumN (keep l) ≤ ((t :: r).length : Nat) := by
      intro q x r' hr hx h
      cases hm : spl q r' with
      | error e => rw [hm] at h; cases h
      | ok l' =>
        rw [hm] at h
        injection h with h
        subst h
        have := spl_sum r' q l' hm
        simp only [keep]
        split
        · simp only [sumN]; omega
        · omega
    by_cases ht : t = 0
    · subst ht
      rw [spl_zero] at h
      exact go _ _ _ (by simp) (.inl rfl) h
    · match r with
      | [] => rw [spl_one ht] at h; cases h
      | n :: d =>
        by_cases hn : d.length < n.toNat
        · rw [spl_bad ht hn] at h; cases h
        · rw [spl_all ht (by omega)] at h
          exact go _ _ _ (by simp; omega) (.inr (by simp; omega)) h
termination_by s.length
theorem getS_cases (s : Bs) : (∃ l, getS s = (l, true, 0) ∧ AllR l ∧ sumN l ≤ 200 ∧ sumN l ≤ s.length ∧ l.length ≤ s.length) ∨ (∃ l, getS s = (l, false, 0)) ∨ (∃ e, getS s = ([], false, e) ∧ e ≠ 0) := by
  unfold getS
  cases h : spl 0 s with
  | error e => exact .inr (.inr ⟨2, rfl, by decide⟩)
  | ok l =>
    obtain ⟨h1, h2⟩ := spl_ok s 0 l h
    have h3 := spl_sum s 0 l h
    have h4 := keep_length l
    dsimp only
    unfold endS
    split
    · exact .inr (.inr ⟨10, rfl, by decide⟩)
    · cases hb : free l with
      | true => exact .inl ⟨_, rfl, keep_allR h1, by omega, h3, by omega⟩
      | false => exact .inr (.inl ⟨_, rfl⟩)
theorem finG_cases (F : List Sub → Msg) (s : Bs) : (∃ l, finG F (getS s) = (F l, true, 0) ∧ AllR l ∧ sumN l ≤ 200 ∧ sumN l ≤ s.length ∧ l.length ≤ s.length) ∨ (∃ e, finG F (getS s) = (msg0, false, e)) := by
  rcases getS_cases s with ⟨l, h, h2⟩ | ⟨l, h⟩ | ⟨e, h, h2⟩
  · rw [h]; exact .inl ⟨l, rfl, h2⟩
  · rw [h]; exact .inr ⟨_, rfl⟩
  · rw [h]; refine .inr ⟨e, ?_⟩
    unfold finG
    rw [if_pos (by simpa using h2)]
theorem rightB_of {l : List Sub} (h : AllR l) (h2 : sumN l ≤ 200) : rightB l = true := by
  unfold rightB; rw [allR_iff.2 h, decide_eq_true h2]; rfl
theorem AllR.few {l : List Sub} (h : AllR l) : ∀ y ∈ l, y.data.length ≤ 300 := fun y hy => by have := h y hy; omega
theorem num_cut_rng {d : Bs} {p : Int} (h : 0 ≤ p) (h2 : p + 2 ≤ d.length) : 0 ≤ num (cut_ d p 2) ∧ num (cut_ d p 2) < 65536 := by
  have hl := cut_length (s := d) (p := p) (n := 2) h (by omega) h2
  have := num_rng (cut_ d p 2)
  rw [show (cut_ d p 2).length = 2 by omega] at this
  exact this
theorem lenSub {l : List Sub} : (encS l).length = sumN l := encS_length l
theorem sub_len : ∀ {l : List Sub}, (l.length : Int) * 2 ≤ sumN l
  | [] => by simp [sumN]
  | y :: l => by have := sub_len (l := l); simp only [sumN, List.length_cons]; omega
theorem fieldG_cases {ty : Int} {d : Bs} (ht : 2 ≤ ty ∧ ty ≤ 5) (hd : d.length ≤ 300) :
    (∃ m, fieldG ty d = (m, true, 0) ∧ FieldR m ∧ GoodM m ∧ (fieldsF m ++ encS m.subs).length ≤ d.length) ∨ (∃ e, fieldG ty d = (msg0, false, e)) := by
  have hb := bt_rng d 0
  unfold fieldG
  have good : ∀ m : Msg, Lite m → FieldR m → (0 ≤ m.kind ∧ m.kind < 100) → (0 ≤ m.flags ∧ m.flags < 100) → (0 ≤ m.ae ∧ m.ae < 100) → (0 ≤ m.plen ∧ m.plen < 100) → (0 ≤ m.hops ∧ m.hops < 100) → GoodM m := fun m hf r a b c d e => ⟨hf, has64.2 (by have := r.nonce; omega), has64.2 (by have := r.interval; omega), has64.2 (by have := r.seq; omega), has64.2 (by have := r.cost; omega), has64.2 (by omega), has64.2 (by omega), has64.2 (by omega), has64.2 (by omega), has64.2 (by omega)⟩
  have w0 : (0 : Int) ≤ 0 ∧ (0 : Int) < 65536 := by decide
  have z0 : (0 : Int) ≤ 0 ∧ (0 : Int) < 100 := by decide
  have z7 : (0 : Int) ≤ 7 ∧ (7 : Int) < 100 := by decide
  have z8 : (0 : Int) ≤ 8 ∧ (8 : Int) < 100 := by decide
  have z9 : (0 : Int) ≤ 9 ∧ (9 : Int) < 100 := by decide
  have z10 : (0 : Int) ≤ 10 ∧ (10 : Int) < 100 := by decide
  have n300 : ([] : List Dest).length ≤ 1000 := by decide
  have both : ∀ {m : Msg} {x : Msg × Bool × Int}, x = (m, true, 0) → FieldR m → (FieldR m → GoodM m) → (fieldsF m ++ encS m.subs).length ≤ d.length → ∃ m, x = (m, true, 0) ∧ FieldR m ∧ GoodM m ∧ (fieldsF m ++ encS m.subs).length ≤ d.length := fun h r g l => ⟨_, h, r, g r, l⟩
  have bare : ∀ m : Msg, bareOf m = some m → bareB m = true := fun m h => by rw [bareB, h]; exact eqB_refl m
  split
  · split
    · exact .inr ⟨_, rfl⟩
    · have n2 := num_cut_rng (d := d) (p := 2) (by omega) (by omega)
      have n4 := num_cut_rng (d := d) (p := 4) (by omega) (by omega)
      refine (finG_cases _ _).imp (fun ⟨l, h, h1, h2, h3, h4⟩ => both h ⟨n2, n4, w0, w0, bare _ rfl, rightB_of h1 h2, rfl⟩ (fun r => good _ ⟨n300, ?_, by simp, by simp, by simp, by simp, by simp, by simp, by simp, by simp, h1.few⟩ r z7 z0 z0 z0 z0) ?_) id
      · have := sub_len (l := l); simp at h4; dsimp only; omega
      · have := lenSub (l := l); simp [fieldsF, be_length] at h3 ⊢; omega
  · split
    · split
      · exact .inr ⟨_, rfl⟩
      · have n0 := num_cut_rng (d := d) (p := 0) (by omega) (by omega)
        refine (finG_cases _ _).imp (fun ⟨l, h, h1, h2, h3, h4⟩ => both h ⟨n0, w0, w0, w0, bare _ rfl, rightB_of h1 h2, rfl⟩ (fun r => good _ ⟨n300, ?_, by simp, by simp, by simp, by simp, by simp, by simp, by simp, by simp, h1.few⟩ r z8 z0 z0 z0 z0) ?_) id
        · have := sub_len (l := l); simp at h4; dsimp only; omega
        · have := lenSub (l := l); simp [fieldsF, be_length] at h3 ⊢; omega
    · split
      · split
        · exact .inr ⟨_, rfl⟩
        · have n2 := num_cut_rng (d := d) (p := 2) (by omega) (by omega)
          have n4 := num_cut_rng (d := d) (p := 4) (by omega) (by omega)
          have hf : bt d 0 / 128 = 0 ∨ bt d 0 / 128 = 1 := by omega
          refine (finG_cases _ _).imp (fun ⟨l, h, h1, h2, h3, h4⟩ => both h ⟨w0, n4, n2, w0, bare _ rfl, rightB_of h1 h2, ?_⟩ (fun r => good _ ⟨n300, ?_, by simp, by simp, by simp, by simp, by simp, by simp, by simp, by simp, h1.few⟩ r z9 (show 0 ≤ bt d 0 / 128 ∧ bt d 0 / 128 < 100 by omega) z0 z0 z0) ?_) id
          · simp only [kindF]; rcases hf with e | e <;> rw [e] <;> rfl
          · have := sub_len (l := l); simp at h4; dsimp only; omega
          · have := lenSub (l := l); simp [fieldsF, be_length] at h3 ⊢; omega
      · split
        · exact .inr ⟨_, rfl⟩
        · split
          · exact .inr ⟨_, rfl⟩
          · split
            · exact .inr ⟨_, rfl⟩
            · rename_i hx hl
              have n2 := num_cut_rng (d := d) (p := 2) (by omega) (by omega)
              have n4 := num_cut_rng (d := d) (p := 4) (by omega) (by omega)
              have hae : bt d 0 = 0 ∨ bt d 0 = 1 ∨ bt d 0 = 2 ∨ bt d 0 = 3 := by omega
              have hA : ∀ a, a = (if bt d 0 = 3 then linkP ++ cut_ d 6 8 else cut_ d 6 (lenA (bt d 0))) → addrB (bt d 0) a = true ∧ a.length ≤ 16 ∧ (((if bt d 0 = 3 then a.drop 8 else a).length : Nat) : Int) = lenA (bt d 0) := by
                intro a ha
                have hc : ∀ n : Int, 0 ≤ n → n = lenA (bt d 0) → ((cut_ d 6 n).length : Int) = n := fun n h0 hn => cut_length (by omega) h0 (by omega)
                rcases hae with e | e | e | e
                · rw [e] at ha hc ⊢
                  have := hc 0 (by omega) rfl
                  have e0 : a = [] := List.length_eq_zero_iff.1 (by rw [ha]; exact (by omega : (cut_ d 6 0).length = 0))
                  rw [e0]; exact ⟨rfl, by simp, rfl⟩
                · rw [e] at ha hc ⊢
                  have := hc 4 (by omega) rfl
                  have e0 : (a.length : Int) = 4 := by rw [ha]; exact this
                  exact ⟨by simp [addrB]; omega, by omega, e0⟩
                · rw [e] at ha hc ⊢
                  have := hc 16 (by omega) rfl
                  have e0 : (a.length : Int) = 16 := by rw [ha]; exact this
                  exact ⟨by simp [addrB]; omega, by omega, e0⟩
                · rw [e] at ha hc ⊢
                  have := hc 8 (by omega) rfl
                  rw [if_pos rfl] at ha
                  have e1 : linkB a = true := by rw [ha]; exact link_long (by omega)
                  have e0 := (linkB_len e1).1
                  rw [if_pos rfl]
                  exact ⟨by simp [addrB, e1], by omega, by simp [e0, lenA]⟩
              obtain ⟨A1, A2, A3⟩ := hA _ rfl
              refine (finG_cases _ _).imp (fun ⟨l, h, h1, h2, h3, h4⟩ => both h ⟨w0, n4, w0, n2, bare _ rfl, rightB_of h1 h2, A1⟩ (fun r => good _ ⟨n300, ?_, by simp, by simp, by simp, by simp, ?_, by simp, by simp, by simp, h1.few⟩ r z10 z0 (show 0 ≤ bt d 0 ∧ bt d 0 < 100 by omega) z0 z0) ?_) id
              · have := sub_len (l := l); simp at h4; dsimp only; omega
              · dsimp only; omega
              · have := lenSub (l := l)
                have hn : 0 ≤ lenA (bt d 0) := by unfold lenA; split <;> (try split) <;> (try split) <;> omega
                generalize hq : (if bt d 0 = 3 then linkP ++ cut_ d 6 8 else cut_ d 6 (lenA (bt d 0))) = a at A3 ⊢
                simp only [List.length_drop] at h3
                simp only [fieldsF, List.length_append, be_length]
                rw [if_neg (by decide), if_neg (by decide), if_neg (by decide)]
                simp only [List.length_append, be_length]
                omega
theorem getS_enc : ∀ {l : List Sub} (p : Int), AllR l → ∃ tl, spl p (encS l) = .ok tl ∧ keep tl = l ∧ free tl = true
  | [], p, _ => ⟨[], spl_nil p, rfl, rfl⟩
  | y :: l, p, h => by
    have hy := h y (List.mem_cons_self ..)
    have h1 : (u8of y.type_).toNat = y.type_.toNat := by have := u8of_int y.type_; rw [if_pos (by omega)] at this; omega
    have h2 : (u8of (y.data.length : Int)).toNat = y.data.length := by have := u8of_int (y.data.length : Int); rw [if_pos (by omega)] at this; omega
    have h0 : u8of y.type_ ≠ 0 := fun e => by rw [e] at h1; simp at h1; omega
    obtain ⟨tl, e1, e2, e3⟩ := getS_enc (l := l) (p + 2 + y.data.length) (fun z hz => h z (List.mem_cons_of_mem _ hz))
    refine ⟨⟨y.type_, p, y.data⟩ :: tl, ?_, ?_, ?_⟩
    · rw [encS, spl_all h0 (by rw [h2]; simp), h2, h1]
      simp only [List.drop_left, List.take_left]
      rw [e1, show ((y.type_.toNat : Nat) : Int) = y.type_ by omega]; rfl
    · rw [keep, if_pos ⟨hy.1, hy.2.1⟩, e2]
    · rw [free_cons, e3, decide_eq_true hy.2.1]; rfl
theorem getS_encS {l : List Sub} (h : AllR l) (h2 : sumN l ≤ 200) : getS (encS l) = (l, true, 0) := by
  obtain ⟨tl, e1, e2, e3⟩ := getS_enc 0 h
  unfold getS
  rw [e1]
  dsimp only
  rw [e2, e3, endS, if_neg (by omega)]
theorem cutL {x y : Bs} {n : Int} (h : (x.length : Int) = n) : cut_ (x ++ y) 0 n = x := by
  unfold cut_
  rw [show ((0 : Int) + n).toNat = x.length by omega]
  simp
theorem cutR {x y : Bs} {k : Nat} {p n : Int} (h : x.length = k) (hp : (k : Int) ≤ p) (hn : 0 ≤ n) : cut_ (x ++ y) p n = cut_ y (p - k) n := by
  unfold cut_
  obtain ⟨a, rfl⟩ : ∃ a : Nat, p = k + a := ⟨(p - k).toNat, by omega⟩
  obtain ⟨b, rfl⟩ : ∃ b : Nat, n = b := ⟨n.toNat, by omega⟩
  rw [show ((k : Int) + (a : Int) + (b : Int)).toNat = k + (a + b) by omega, show ((k : Int) + (a : Int)).toNat = k + a by omega, show ((k : Int) + (a : Int) - (k : Int) + (b : Int)).toNat = a + b by omega, show ((k : Int) + (a : Int) - (k : Int)).toNat = a by omega, ← h, List.take_length_add_append, List.drop_length_add_append]
theorem num_be2 {n : Int} (h : 0 ≤ n ∧ n < 65536) : num (be 2 n) = n := num_be 2 n h.1 h.2
theorem fieldG_back {m : Msg} (r : FieldR m) : fieldG (m.kind - 5) (fieldsF m ++ encS m.subs) = (m, true, 0) := by
  obtain ⟨hr, hs⟩ := rightB_split r.subs
  have hg := getS_encS hr hs
  have hbare := r.bare
  have l2 : ∀ n, (be 2 n).length = 2 := be_length 2
  have cat : ∀ (a b : Int) (x : Bs), (be 2 a ++ (be 2 b ++ x)).drop 4 = x := fun a b x => by
    rw [← List.append_assoc, List.drop_left' (by simp [l2])]
  have fin : ∀ F : List Sub → Msg, F m.subs = m → finG F (getS (encS m.subs)) = (m, true, 0) := fun F h => by rw [hg]; show (F m.subs, true, 0) = _; rw [h]
  have eqm : ∀ x, bareOf m = some x → x = m := fun x h => by rw [bareB, h] at hbare; exact eqB_true.1 hbare
  rcases r.kinds with hk | hk | ⟨hk, hf⟩ | ⟨hk, ha⟩
  · have hx := eqm _ (by unfold bareOf; rw [if_neg (by omega), if_neg (by omega), if_neg (by omega), if_neg (by omega), if_neg (by omega), if_neg (by omega), if_pos hk])
    have ef : fieldsF m = be 2 0 ++ (be 2 m.nonce ++ be 2 m.interval) := by unfold fieldsF; rw [if_pos hk]
    rw [ef, hk]
    have el : (be 2 0 ++ (be 2 m.nonce ++ be 2 m.interval) ++ encS m.subs).length = 6 + (encS m.subs).length := by simp [l2]; omega
    have e1 : cut_ (be 2 0 ++ (be 2 m.nonce ++ be 2 m.interval) ++ encS m.subs) 2 2 = be 2 m.nonce := by
      rw [List.append_assoc, cutR (l2 _) (by omega) (by omega), List.append_assoc]; exact cutL (by simp [l2])
    have e2 : cut_ (be 2 0 ++ (be 2 m.nonce ++ be 2 m.interval) ++ encS m.subs) 4 2 = be 2 m.interval := by
      rw [List.append_assoc, cutR (l2 _) (by omega) (by omega), List.append_assoc, cutR (l2 _) (by omega) (by omega)]; exact cutL (by simp [l2])
    have e3 : (be 2 0 ++ (be 2 m.nonce ++ be 2 m.interval) ++ encS m.subs).drop 6 = encS m.subs := List.drop_left' (by simp [l2])
    unfold fieldG
    rw [if_pos (by omega), if_neg (by omega), e1, e2, e3, num_be2 r.nonce, num_be2 r.interval]
    refine fin _ ?_
    rw [hk] at hx
    exact hx
  · have hx := eqm _ (by unfold bareOf; rw [if_neg (by omega), if_neg (by omega), if_neg (by omega), if_neg (by omega), if_neg (by omega), if_neg (by omega), if_neg (by omega), if_pos hk])
    have ef : fieldsF m = be 2 m.nonce := by unfold fieldsF; rw [if_neg (by omega), if_pos hk]
    rw [ef, hk]
    have el : (be 2 m.nonce ++ encS m.subs).length = 2 + (encS m.subs).length := by simp [l2]
    have e1 : cut_ (be 2 m.nonce ++ encS m.subs) 0 2 = be 2 m.nonce := cutL (by simp [l2])
    have e3 : (be 2 m.nonce ++ encS m.subs).drop 2 = encS m.subs := List.drop_left' (by simp [l2])
    unfold fieldG
    rw [if_neg (by omega), if_pos (by omega), if_neg (by omega), e1, e3, num_be2 r.nonce]
    refine fin _ ?_
    rw [hk] at hx
    exact hx
  · have hx := eqm _ (by unfold bareOf; rw [if_neg (by omega), if_neg (by omega), if_neg (by omega), if_neg (by omega), if_neg (by omega), if_neg (by omega), if_neg (by omega), if_neg (by omega), if_pos hk])
    have ef : fieldsF m = be 2 (32768 * m.flags) ++ (be 2 m.seq ++ be 2 m.interval) := by unfold fieldsF; rw [if_neg (by omega), if_neg (by omega), if_pos hk]
    rw [ef, hk]
    have el : (be 2 (32768 * m.flags) ++ (be 2 m.seq ++ be 2 m.interval) ++ encS m.subs).length = 6 + (encS m.subs).length := by simp [l2]; omega
    have e0 : bt (be 2 (32768 * m.flags) ++ (be 2 m.seq ++ be 2 m.interval) ++ encS m.subs) 0 / 128 = m.flags := by
      rw [← bt_128 _ (by omega), List.append_assoc, cutL (by simp [l2]), num_be2 (by omega)]; omega
    have e1 : cut_ (be 2 (32768 * m.flags) ++ (be 2 m.seq ++ be 2 m.interval) ++ encS m.subs) 2 2 = be 2 m.seq := by
      rw [List.append_assoc, cutR (l2 _) (by omega) (by omega), List.append_assoc]; exact cutL (by simp [l2])
    have e2 : cut_ (be 2 (32768 * m.flags) ++ (be 2 m.seq ++ be 2 m.interval) ++ encS m.subs) 4 2 = be 2 m.interval := by
      rw [List.append_assoc, cutR (l2 _) (by omega) (by omega), List.append_assoc, cutR (l2 _) (by omega) (by omega)]; exact cutL (by simp [l2])
    have e3 : (be 2 (32768 * m.flags) ++ (be 2 m.seq ++ be 2 m.interval) ++ encS m.subs).drop 6 = encS m.subs := List.drop_left' (by simp [l2])
    unfold fieldG
    rw [if_neg (by omega), if_neg (by omega), if_pos (by omega), if_neg (by omega), e0, e1, e2, e3, num_be2 r.seq, num_be2 r.interval]
    refine fin _ ?_
    rw [hk] at hx
    exact hx
  · have hx := eqm _ (by unfold bareOf; rw [if_neg (by omega), if_neg (by omega), if_neg (by omega), if_neg (by omega), if_neg (by omega), if_neg (by omega), if_neg (by omega), if_neg (by omega), if_neg (by omega), if_pos hk])
    obtain ⟨A, hA⟩ : ∃ A, A = (if m.ae = 3 then m.addr.drop 8 else m.addr) := ⟨_, rfl⟩
    have hc := addrB_cases ha
    have hae : 0 ≤ m.ae ∧ m.ae ≤ 3 := by rcases hc with ⟨h, _⟩ | ⟨h, _⟩ | ⟨h, _⟩ | ⟨h, _⟩ <;> omega
    have ef : fieldsF m = be 2 (256 * m.ae) ++ (be 2 m.cost ++ (be 2 m.interval ++ A)) := by unfold fieldsF; rw [if_neg (by omega), if_neg (by omega), if_neg (by omega), hA]
    have hAl : (A.length : Int) = lenA m.ae ∧ (if m.ae = 3 then linkP ++ A else A) = m.addr := by
      rcases hc with ⟨h, h2⟩ | ⟨h, h2⟩ | ⟨h, h2⟩ | ⟨h, h2⟩
      · rw [h] at hA ⊢; rw [if_neg (by omega)] at hA ⊢; rw [hA, h2]; exact ⟨rfl, rfl⟩
      · rw [h] at hA ⊢; rw [if_neg (by omega)] at hA ⊢; rw [hA]; exact ⟨by rw [h2]; rfl, rfl⟩
      · rw [h] at hA ⊢; rw [if_neg (by omega)] at hA ⊢; rw [hA]; exact ⟨by rw [h2]; rfl, rfl⟩
      · rw [h] at hA ⊢; rw [if_pos rfl] at hA ⊢; rw [hA]; exact ⟨by rw [List.length_drop, (linkB_len h2).1]; rfl, link_parts h2⟩
    rw [ef, hk]
    have el : (be 2 (256 * m.ae) ++ (be 2 m.cost ++ (be 2 m.interval ++ A)) ++ encS m.subs).length = 6 + A.length + (encS m.subs).length := by simp [l2]; omega
    have e0 : bt (be 2 (256 * m.ae) ++ (be 2 m.cost ++ (be 2 m.interval ++ A)) ++ encS m.subs) 0 = m.ae := by
      rw [← bt_lt2 _ (by omega), List.append_assoc, cutL (by simp [l2]), num_be2 (by omega)]; omega
    have e1 : cut_ (be 2 (256 * m.ae) ++ (be 2 m.cost ++ (be 2 m.interval ++ A)) ++ encS m.subs) 2 2 = be 2 m.cost := by
      rw [List.append_assoc, cutR (l2 _) (by omega) (by omega), List.append_assoc]; exact cutL (by simp [l2])
    have e2 : cut_ (be 2 (256 * m.ae) ++ (be 2 m.cost ++ (be 2 m.interval ++ A)) ++ encS m.subs) 4 2 = be 2 m.interval := by
      rw [List.append_assoc, cutR (l2 _) (by omega) (by omega), List.append_assoc, cutR (l2 _) (by omega) (by omega), List.append_assoc]; exact cutL (by simp [l2])
    have e4 : cut_ (be 2 (256 * m.ae) ++ (be 2 m.cost ++ (be 2 m.interval ++ A)) ++ encS m.subs) 6 (lenA m.ae) = A := by
      rw [List.append_assoc, cutR (l2 _) (by omega) (by omega), List.append_assoc, cutR (l2 _) (by omega) (by omega), List.append_assoc, cutR (l2 _) (by omega) (by omega)]; exact cutL hAl.1
    have e3 : (be 2 (256 * m.ae) ++ (be 2 m.cost ++ (be 2 m.interval ++ A)) ++ encS m.subs).drop (6 + lenA m.ae).toNat = encS m.subs := List.drop_left' (by simp [l2]; omega)
    unfold fieldG
    rw [if_neg (by omega), if_neg (by omega), if_neg (by omega), if_neg (by omega), e0, if_neg (by omega), if_neg (by omega), e1, e2, e3, num_be2 r.cost, num_be2 r.interval]
    refine fin _ ?_
    have e5 : (if m.ae = 3 then linkP ++ cut_ (be 2 (256 * m.ae) ++ (be 2 m.cost ++ (be 2 m.interval ++ A)) ++ encS m.subs) 6 8 else cut_ (be 2 (256 * m.ae) ++ (be 2 m.cost ++ (be 2 m.interval ++ A)) ++ encS m.subs) 6 (lenA m.ae)) = m.addr := by
      rw [e4]
      by_cases h3 : m.ae = 3
      · have h8 : lenA m.ae = 8 := by rw [h3]; rfl
        rw [h8] at e4
        rw [if_pos h3, e4]
        have := hAl.2; rw [if_pos h3] at this; exact this
      · have := hAl.2; rw [if_neg h3] at this ⊢; exact this
    rw [e5]
    rw [hk] at hx
    exact hx
theorem FieldR.small {m : Msg} (r : FieldR m) : (fieldsF m).length ≤ 22 := by
  unfold fieldsF; split
  · simp [be_length]
  · split
    · simp [be_length]
    · split
      · simp [be_length]
      · rcases r.kinds with hk | hk | ⟨hk, _⟩ | ⟨hk, ha⟩ <;> first | omega | skip
        rcases addrB_cases ha with ⟨h, h2⟩ | ⟨h, h2⟩ | ⟨h, h2⟩ | ⟨h, h2⟩
        · simp [be_length, h, h2]
        · simp [be_length, h, h2]
        · simp [be_length, h, h2]
        · have := (linkB_len h2).1
          simp [be_length, h, this]
theorem fieldPut_ok {m : Msg} (r : FieldR m) : fieldPut m = (u8of (m.kind - 5) :: u8of (fieldsF m ++ encS m.subs).length :: (fieldsF m ++ encS m.subs), true) ∧ (fieldsF m ++ encS m.subs).length ≤ 255 ∧ 2 ≤ m.kind - 5 ∧ m.kind - 5 ≤ 5 := by
  have h1 := r.small
  have h2 := encS_small r.subs
  have hk : 2 ≤ m.kind - 5 ∧ m.kind - 5 ≤ 5 := by rcases r.kinds with h | h | ⟨h, _⟩ | ⟨h, _⟩ <;> omega
  have hl : (fieldsF m ++ encS m.subs).length ≤ 255 := by simp; omega
  refine ⟨?_, hl, hk⟩
  unfold fieldPut
  rw [if_pos (fieldR_iff.2 r), tput, if_pos ⟨by omega, by omega, hl⟩]
theorem spl_tput {t p : Int} {d : Bs} (ht : 1 ≤ t ∧ t ≤ 255) (hd : d.length ≤ 255) : spl p (u8of t :: u8of d.length :: d) = .ok [⟨t, p, d⟩] := by
  have h1 : (u8of t).toNat = t.toNat := by have := u8of_int t; rw [if_pos (by omega)] at this; omega
  have h2 : (u8of (d.length : Int)).toNat = d.length := by have := u8of_int (d.length : Int); rw [if_pos (by omega)] at this; omega
  have h0 : u8of t ≠ 0 := fun e => by rw [e] at h1; simp at h1; omega
  rw [spl_all h0 (by omega), h2, List.drop_length, spl_nil, List.take_length, h1]
  simp only [Except.map]
  rw [show ((t.toNat : Nat) : Int) = t by omega]
theorem getS_nil : getS [] = ([], true, 0) := by unfold getS; rw [spl_nil]; rfl
end Go.VP
