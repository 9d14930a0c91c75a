import Derived.Test.YtojlppofmjkmhaaDoorGFQ0
import Derived.Test.YtojlppofmjkmhaaDoorGFQ1
import Derived.Test.YtojlppofmjkmhaaDoorGM0
import Derived.Test.YtojlppofmjkmhaaDoorGXM
set_option linter.unusedVariables false
set_option linter.unusedSimpArgs false
set_option maxRecDepth 100000
namespace Go.VP
open Go Go.VI
theorem rword_is (k : Int) : g_ref29_Word (k, ()) = some ((wordM k, ()), ()) := by
  rw [g_ref29_Word_eq]
  unfold wordM
  by_cases h0 : k < 1
  · rw [ifd h0, if_neg (by omega)]
  · rw [ifn h0]
    by_cases h1 : 14 < k
    · rw [ifd h1, if_neg (by omega)]
    · rw [ifn h1, g_ref29_words_eq, Option.bind_some, if_pos (show 0 ≤ k by omega), if_pos (show 1 ≤ k ∧ k ≤ 14 by omega)]
      have : k = 1 ∨ k = 2 ∨ k = 3 ∨ k = 4 ∨ k = 5 ∨ k = 6 ∨ k = 7 ∨ k = 8 ∨ k = 9 ∨ k = 10 ∨ k = 11 ∨ k = 12 ∨ k = 13 ∨ k = 14 := by omega
      rcases this with rfl | rfl | rfl | rfl | rfl | rfl | rfl | rfl | rfl | rfl | rfl | rfl | rfl | rfl <;> rfl
theorem rngB_iff {n : Int} : rngB n = true ↔ rng n := by unfold rngB rng; simp
theorem nums_all {m : XMsg} : (((numsL m ++ m.list.map (·.seq)) ++ m.subs.map (·.type_)).all rngB) = true ↔ Nums m := by
  rw [List.all_append, List.all_append]
  simp only [numsL, List.all_cons, List.all_nil, Bool.and_true, Bool.and_eq_true, rngB_iff, List.all_map, List.all_eq_true, Function.comp]
  constructor
  · rintro ⟨⟨⟨n_cmd, n_ver, n_family, n_ae, n_plen, n_tag, n_metric, n_seq, n_seq2, n_interval, n_flags, n_hops, n_nonce, n_cost, n_type_⟩, h1⟩, h2⟩
    exact ⟨n_cmd, n_ver, n_family, n_ae, n_plen, n_tag, n_metric, n_seq, n_seq2, n_interval, n_flags, n_hops, n_nonce, n_cost, n_type_, h1, h2⟩
  · rintro ⟨n_cmd, n_ver, n_family, n_ae, n_plen, n_tag, n_metric, n_seq, n_seq2, n_interval, n_flags, n_hops, n_nonce, n_cost, n_type_, h1, h2⟩
    exact ⟨⟨⟨n_cmd, n_ver, n_family, n_ae, n_plen, n_tag, n_metric, n_seq, n_seq2, n_interval, n_flags, n_hops, n_nonce, n_cost, n_type_⟩, h1⟩, h2⟩
theorem cell_len {w t : Bs} {K : Nat} (hw : w.length ≤ 100) (ht : t.length ≤ K) : (cellT w t).length ≤ K + 200 := by
  unfold cellT
  split
  · simp
  · simp only [List.length_cons, List.length_append]; omega
theorem rget_len {m : XMsg} (h : SmallM m) : ∀ f ∈ fsM, (f.get m).length ≤ 300000000 := by
  have nl : ∀ (w : Bs) (g : XMsg → Int) (p : XMsg → Int → XMsg), ((numF w g p).get m).length ≤ 300000000 := fun w g p => by
    show (if g m = 0 then [] else decT (g m).toNat).length ≤ _
    split
    · simp
    · have := decT_len (g m).toNat; omega
  have tl : ∀ (w : Bs) (g : XMsg → Bs) (p : XMsg → Bs → XMsg), (g m).length ≤ 100000 → ((textF w g p).get m).length ≤ 300000000 := fun w g p hg => by
    show (hexs (g m)).length ≤ _
    rw [hexs_len]; omega
  intro f hf
  simp only [fsM, List.mem_cons, List.not_mem_nil, or_false] at hf
  rcases hf with rfl | rfl | rfl | rfl | rfl | rfl | rfl | rfl | rfl | rfl | rfl | rfl | rfl | rfl | rfl | rfl | rfl | rfl | rfl | rfl | rfl | rfl | rfl | rfl
  · exact nl _ _ _
  · exact nl _ _ _
  · exact tl _ _ _ h.auth
  · exact nl _ _ _
  · exact nl _ _ _
  · exact tl _ _ _ h.prefix_
  · exact nl _ _ _
  · exact nl _ _ _
  · exact tl _ _ _ h.next
  · exact nl _ _ _
  · exact tl _ _ _ h.id
  · exact nl _ _ _
  · exact nl _ _ _
  · exact nl _ _ _
  · exact nl _ _ _
  · exact nl _ _ _
  · exact nl _ _ _
  · exact nl _ _ _
  · exact tl _ _ _ h.addr
  · exact tl _ _ _ h.orig
  · show (joinC 44 ((m.list.map dTo).map destT)).length ≤ _
    have := joinC_few 44 200100 ((m.list.map dTo).map destT) 1000 (fun p hp => by
      obtain ⟨x, hx, rfl⟩ := List.mem_map.1 hp
      obtain ⟨d, hd, rfl⟩ := List.mem_map.1 hx
      exact destT_len (h.list.2 d hd)) (by simp; exact h.list.1)
    omega
  · exact nl _ _ _
  · exact tl _ _ _ h.data
  · show (joinC 44 ((m.subs.map sTo).map subT)).length ≤ _
    have := joinC_few 44 200100 ((m.subs.map sTo).map subT) 1000 (fun p hp => by
      obtain ⟨x, hx, rfl⟩ := List.mem_map.1 hp
      obtain ⟨d, hd, rfl⟩ := List.mem_map.1 hx
      exact subT_len (h.subs.2 d hd)) (by simp; exact h.subs.1)
    omega
theorem rprint_is {m : XMsg} (h : SmallM m) : g_ref29_Print (m, ()) = some (((printM m).getD [], (printM m).isSome, ()), ()) := by
  rw [g_ref29_Print_eq, has_is h.list.1 h.subs.1, Option.bind_some]
  dsimp only
  cases hb : (bareB m && ((numsL m ++ m.list.map (·.seq)) ++ m.subs.map (·.type_)).all rngB) with
  | false =>
    have hp : printM m = none := by
      unfold printM
      rw [if_neg (fun hh => by rw [bareXB.2 hh.1, nums_all.2 hh.2] at hb; cases hb)]
    rw [ifnf, hp]; rfl
  | true =>
    rw [Bool.and_eq_true] at hb
    have hN := nums_all.1 hb.2
    have hX := bareXB.1 hb.1
    have hgl := fun f hf => (rget_len h f hf : (TFd.get f m).length ≤ 300000000)
    rw [ifnt, rword_is, Option.bind_some, printM_pos hX hN]
    have hwl := word_len m.kind
    dsimp only
    obtain ⟨c0, e0⟩ : ∃ c, c = cellT ([99, 109, 100] : Bs) (fd_cmd.get m) := ⟨_, rfl⟩
    have q0 : g_ref29_num (([99, 109, 100] : Bs), m.cmd, ()) = some ((c0, ()), ()) := by rw [e0]; exact r29nums_is (by decide) hN.cmd
    have l0 : c0.length ≤ 300000200 := by rw [e0]; exact cell_len (by decide) (hgl fd_cmd (by simp [fsM]))
    obtain ⟨c1, e1⟩ : ∃ c, c = cellT ([118, 101, 114] : Bs) (fd_ver.get m) := ⟨_, rfl⟩
    have q1 : g_ref29_num (([118, 101, 114] : Bs), m.ver, ()) = some ((c1, ()), ()) := by rw [e1]; exact r29nums_is (by decide) hN.ver
    have l1 : c1.length ≤ 300000200 := by rw [e1]; exact cell_len (by decide) (hgl fd_ver (by simp [fsM]))
    obtain ⟨c2, e2⟩ : ∃ c, c = cellT ([97, 117, 116, 104] : Bs) (fd_auth.get m) := ⟨_, rfl⟩
    have q2 : g_ref29_text (([97, 117, 116, 104] : Bs), m.auth, ()) = some ((c2, ()), ()) := by rw [e2]; exact r29text_is (by decide) (by have := h.auth; omega)
    have l2 : c2.length ≤ 300000200 := by rw [e2]; exact cell_len (by decide) (hgl fd_auth (by simp [fsM]))
    obtain ⟨c3, e3⟩ : ∃ c, c = cellT ([102, 97, 109, 105, 108, 121] : Bs) (fd_family.get m) := ⟨_, rfl⟩
    have q3 : g_ref29_num (([102, 97, 109, 105, 108, 121] : Bs), m.family, ()) = some ((c3, ()), ()) := by rw [e3]; exact r29nums_is (by decide) hN.family
    have l3 : c3.length ≤ 300000200 := by rw [e3]; exact cell_len (by decide) (hgl fd_family (by simp [fsM]))
    obtain ⟨c4, e4⟩ : ∃ c, c = cellT ([97, 101] : Bs) (fd_ae.get m) := ⟨_, rfl⟩
    have q4 : g_ref29_num (([97, 101] : Bs), m.ae, ()) = some ((c4, ()), ()) := by rw [e4]; exact r29nums_is (by decide) hN.ae
    have l4 : c4.length ≤ 300000200 := by rw [e4]; exact cell_len (by decide) (hgl fd_ae (by simp [fsM]))
    obtain ⟨c5, e5⟩ : ∃ c, c = cellT ([112, 114, 101, 102, 105, 120] : Bs) (fd_prefix_.get m) := ⟨_, rfl⟩
    have q5 : g_ref29_text (([112, 114, 101, 102, 105, 120] : Bs), m.prefix_, ()) = some ((c5, ()), ()) := by rw [e5]; exact r29text_is (by decide) (by have := h.prefix_; omega)
    have l5 : c5.length ≤ 300000200 := by rw [e5]; exact cell_len (by decide) (hgl fd_prefix_ (by simp [fsM]))
    obtain ⟨c6, e6⟩ : ∃ c, c = cellT ([112, 108, 101, 110] : Bs) (fd_plen.get m) := ⟨_, rfl⟩
    have q6 : g_ref29_num (([112, 108, 101, 110] : Bs), m.plen, ()) = some ((c6, ()), ()) := by rw [e6]; exact r29nums_is (by decide) hN.plen
    have l6 : c6.length ≤ 300000200 := by rw [e6]; exact cell_len (by decide) (hgl fd_plen (by simp [fsM]))
    obtain ⟨c7, e7⟩ : ∃ c, c = cellT ([116, 97, 103] : Bs) (fd_tag.get m) := ⟨_, rfl⟩
    have q7 : g_ref29_num (([116, 97, 103] : Bs), m.tag, ()) = some ((c7, ()), ()) := by rw [e7]; exact r29nums_is (by decide) hN.tag
    have l7 : c7.length ≤ 300000200 := by rw [e7]; exact cell_len (by decide) (hgl fd_tag (by simp [fsM]))
    obtain ⟨c8, e8⟩ : ∃ c, c = cellT ([110, 101, 120, 116] : Bs) (fd_next.get m) := ⟨_, rfl⟩
    have q8 : g_ref29_text (([110, 101, 120, 116] : Bs), m.next, ()) = some ((c8, ()), ()) := by rw [e8]; exact r29text_is (by decide) (by have := h.next; omega)
    have l8 : c8.length ≤ 300000200 := by rw [e8]; exact cell_len (by decide) (hgl fd_next (by simp [fsM]))
    obtain ⟨c9, e9⟩ : ∃ c, c = cellT ([109, 101, 116, 114, 105, 99] : Bs) (fd_metric.get m) := ⟨_, rfl⟩
    have q9 : g_ref29_num (([109, 101, 116, 114, 105, 99] : Bs), m.metric, ()) = some ((c9, ()), ()) := by rw [e9]; exact r29nums_is (by decide) hN.metric
    have l9 : c9.length ≤ 300000200 := by rw [e9]; exact cell_len (by decide) (hgl fd_metric (by simp [fsM]))
    obtain ⟨c10, e10⟩ : ∃ c, c = cellT ([105, 100] : Bs) (fd_id.get m) := ⟨_, rfl⟩
    have q10 : g_ref29_text (([105, 100] : Bs), m.id, ()) = some ((c10, ()), ()) := by rw [e10]; exact r29text_is (by decide) (by have := h.id; omega)
    have l10 : c10.length ≤ 300000200 := by rw [e10]; exact cell_len (by decide) (hgl fd_id (by simp [fsM]))
    obtain ⟨c11, e11⟩ : ∃ c, c = cellT ([115, 101, 113] : Bs) (fd_seq.get m) := ⟨_, rfl⟩
    have q11 : g_ref29_num (([115, 101, 113] : Bs), m.seq, ()) = some ((c11, ()), ()) := by rw [e11]; exact r29nums_is (by decide) hN.seq
    have l11 : c11.length ≤ 300000200 := by rw [e11]; exact cell_len (by decide) (hgl fd_seq (by simp [fsM]))
    obtain ⟨c12, e12⟩ : ∃ c, c = cellT ([115, 101, 113, 50] : Bs) (fd_seq2.get m) := ⟨_, rfl⟩
    have q12 : g_ref29_num (([115, 101, 113, 50] : Bs), m.seq2, ()) = some ((c12, ()), ()) := by rw [e12]; exact r29nums_is (by decide) hN.seq2
    have l12 : c12.length ≤ 300000200 := by rw [e12]; exact cell_len (by decide) (hgl fd_seq2 (by simp [fsM]))
    obtain ⟨c13, e13⟩ : ∃ c, c = cellT ([105, 110, 116, 101, 114, 118, 97, 108] : Bs) (fd_interval.get m) := ⟨_, rfl⟩
    have q13 : g_ref29_num (([105, 110, 116, 101, 114, 118, 97, 108] : Bs), m.interval, ()) = some ((c13, ()), ()) := by rw [e13]; exact r29nums_is (by decide) hN.interval
    have l13 : c13.length ≤ 300000200 := by rw [e13]; exact cell_len (by decide) (hgl fd_interval (by simp [fsM]))
    obtain ⟨c14, e14⟩ : ∃ c, c = cellT ([102, 108, 97, 103, 115] : Bs) (fd_flags.get m) := ⟨_, rfl⟩
    have q14 : g_ref29_num (([102, 108, 97, 103, 115] : Bs), m.flags, ()) = some ((c14, ()), ()) := by rw [e14]; exact r29nums_is (by decide) hN.flags
    have l14 : c14.length ≤ 300000200 := by rw [e14]; exact cell_len (by decide) (hgl fd_flags (by simp [fsM]))
    obtain ⟨c15, e15⟩ : ∃ c, c = cellT ([104, 111, 112, 115] : Bs) (fd_hops.get m) := ⟨_, rfl⟩
    have q15 : g_ref29_num (([104, 111, 112, 115] : Bs), m.hops, ()) = some ((c15, ()), ()) := by rw [e15]; exact r29nums_is (by decide) hN.hops
    have l15 : c15.length ≤ 300000200 := by rw [e15]; exact cell_len (by decide) (hgl fd_hops (by simp [fsM]))
    obtain ⟨c16, e16⟩ : ∃ c, c = cellT ([110, 111, 110, 99, 101] : Bs) (fd_nonce.get m) := ⟨_, rfl⟩
    have q16 : g_ref29_num (([110, 111, 110, 99, 101] : Bs), m.nonce, ()) = some ((c16, ()), ()) := by rw [e16]; exact r29nums_is (by decide) hN.nonce
    have l16 : c16.length ≤ 300000200 := by rw [e16]; exact cell_len (by decide) (hgl fd_nonce (by simp [fsM]))
    obtain ⟨c17, e17⟩ : ∃ c, c = cellT ([99, 111, 115, 116] : Bs) (fd_cost.get m) := ⟨_, rfl⟩
    have q17 : g_ref29_num (([99, 111, 115, 116] : Bs), m.cost, ()) = some ((c17, ()), ()) := by rw [e17]; exact r29nums_is (by decide) hN.cost
    have l17 : c17.length ≤ 300000200 := by rw [e17]; exact cell_len (by decide) (hgl fd_cost (by simp [fsM]))
    obtain ⟨c18, e18⟩ : ∃ c, c = cellT ([97, 100, 100, 114] : Bs) (fd_addr.get m) := ⟨_, rfl⟩
    have q18 : g_ref29_text (([97, 100, 100, 114] : Bs), m.addr, ()) = some ((c18, ()), ()) := by rw [e18]; exact r29text_is (by decide) (by have := h.addr; omega)
    have l18 : c18.length ≤ 300000200 := by rw [e18]; exact cell_len (by decide) (hgl fd_addr (by simp [fsM]))
    obtain ⟨c19, e19⟩ : ∃ c, c = cellT ([111, 114, 105, 103] : Bs) (fd_orig.get m) := ⟨_, rfl⟩
    have q19 : g_ref29_text (([111, 114, 105, 103] : Bs), m.orig, ()) = some ((c19, ()), ()) := by rw [e19]; exact r29text_is (by decide) (by have := h.orig; omega)
    have l19 : c19.length ≤ 300000200 := by rw [e19]; exact cell_len (by decide) (hgl fd_orig (by simp [fsM]))
    obtain ⟨c20, e20⟩ : ∃ c, c = cellT ([108, 105, 115, 116] : Bs) (fd_list.get m) := ⟨_, rfl⟩
    have q20 : g_ref29_list (m.list, ()) = some ((c20, ()), ()) := by rw [e20]; exact r29list_is h.list.1 (fun d hd => ⟨h.list.2 d hd, hN.list d hd⟩)
    have l20 : c20.length ≤ 300000200 := by rw [e20]; exact cell_len (by decide) (hgl fd_list (by simp [fsM]))
    obtain ⟨c21, e21⟩ : ∃ c, c = cellT ([116, 121, 112, 101] : Bs) (fd_type_.get m) := ⟨_, rfl⟩
    have q21 : g_ref29_num (([116, 121, 112, 101] : Bs), m.type_, ()) = some ((c21, ()), ()) := by rw [e21]; exact r29nums_is (by decide) hN.type_
    have l21 : c21.length ≤ 300000200 := by rw [e21]; exact cell_len (by decide) (hgl fd_type_ (by simp [fsM]))
    obtain ⟨c22, e22⟩ : ∃ c, c = cellT ([100, 97, 116, 97] : Bs) (fd_data.get m) := ⟨_, rfl⟩
    have q22 : g_ref29_text (([100, 97, 116, 97] : Bs), m.data, ()) = some ((c22, ()), ()) := by rw [e22]; exact r29text_is (by decide) (by have := h.data; omega)
    have l22 : c22.length ≤ 300000200 := by rw [e22]; exact cell_len (by decide) (hgl fd_data (by simp [fsM]))
    obtain ⟨c23, e23⟩ : ∃ c, c = cellT ([115, 117, 98, 115] : Bs) (fd_subs.get m) := ⟨_, rfl⟩
    have q23 : g_ref29_subs (m.subs, ()) = some ((c23, ()), ()) := by rw [e23]; exact r29subs_is h.subs.1 (fun d hd => ⟨h.subs.2 d hd, hN.subs d hd⟩)
    have l23 : c23.length ≤ 300000200 := by rw [e23]; exact cell_len (by decide) (hgl fd_subs (by simp [fsM]))
    rw [q0, Option.bind_some]
    dsimp only
    rw [if_pos (maxB_of (by first | omega | (simp only [List.length_append]; omega)))]
    rw [q1, Option.bind_some]
    dsimp only
    rw [if_pos (maxB_of (by first | omega | (simp only [List.length_append]; omega)))]
    rw [q2, Option.bind_some]
    dsimp only
    rw [if_pos (maxB_of (by first | omega | (simp only [List.length_append]; omega)))]
    rw [q3, Option.bind_some]
    dsimp only
    rw [if_pos (maxB_of (by first | omega | (simp only [List.length_append]; omega)))]
    rw [q4, Option.bind_some]
    dsimp only
    rw [if_pos (maxB_of (by first | omega | (simp only [List.length_append]; omega)))]
    rw [q5, Option.bind_some]
    dsimp only
    rw [if_pos (maxB_of (by first | omega | (simp only [List.length_append]; omega)))]
    rw [q6, Option.bind_some]
    dsimp only
    rw [if_pos (maxB_of (by first | omega | (simp only [List.length_append]; omega)))]
    rw [q7, Option.bind_some]
    dsimp only
    rw [if_pos (maxB_of (by first | omega | (simp only [List.length_append]; omega)))]
    rw [q8, Option.bind_some]
    dsimp only
    rw [if_pos (maxB_of (by first | omega | (simp only [List.length_append]; omega)))]
    rw [q9, Option.bind_some]
    dsimp only
    rw [if_pos (maxB_of (by first | omega | (simp only [List.length_append]; omega)))]
    rw [q10, Option.bind_some]
    dsimp only
    rw [if_pos (maxB_of (by first | omega | (simp only [List.length_append]; omega)))]
    rw [q11, Option.bind_some]
    dsimp only
    rw [if_pos (maxB_of (by first | omega | (simp only [List.length_append]; omega)))]
    rw [q12, Option.bind_some]
    dsimp only
    rw [if_pos (maxB_of (by first | omega | (simp only [List.length_append]; omega)))]
    rw [q13, Option.bind_some]
    dsimp only
    rw [if_pos (maxB_of (by first | omega | (simp only [List.length_append]; omega)))]
    rw [q14, Option.bind_some]
    dsimp only
    rw [if_pos (maxB_of (by first | omega | (simp only [List.length_append]; omega)))]
    rw [q15, Option.bind_some]
    dsimp only
    rw [if_pos (maxB_of (by first | omega | (simp only [List.length_append]; omega)))]
    rw [q16, Option.bind_some]
    dsimp only
    rw [if_pos (maxB_of (by first | omega | (simp only [List.length_append]; omega)))]
    rw [q17, Option.bind_some]
    dsimp only
    rw [if_pos (maxB_of (by first | omega | (simp only [List.length_append]; omega)))]
    rw [q18, Option.bind_some]
    dsimp only
    rw [if_pos (maxB_of (by first | omega | (simp only [List.length_append]; omega)))]
    rw [q19, Option.bind_some]
    dsimp only
    rw [if_pos (maxB_of (by first | omega | (simp only [List.length_append]; omega)))]
    rw [q20, Option.bind_some]
    dsimp only
    rw [if_pos (maxB_of (by first | omega | (simp only [List.length_append]; omega)))]
    rw [q21, Option.bind_some]
    dsimp only
    rw [if_pos (maxB_of (by first | omega | (simp only [List.length_append]; omega)))]
    rw [q22, Option.bind_some]
    dsimp only
    rw [if_pos (maxB_of (by first | omega | (simp only [List.length_append]; omega)))]
    rw [q23, Option.bind_some]
    dsimp only
    rw [if_pos (maxB_of (by first | omega | (simp only [List.length_append]; omega)))]
    have hline : lineF m fsM = c0 ++ (c1 ++ (c2 ++ (c3 ++ (c4 ++ (c5 ++ (c6 ++ (c7 ++ (c8 ++ (c9 ++ (c10 ++ (c11 ++ (c12 ++ (c13 ++ (c14 ++ (c15 ++ (c16 ++ (c17 ++ (c18 ++ (c19 ++ (c20 ++ (c21 ++ (c22 ++ (c23))))))))))))))))))))))) := by
      simp only [fsM, lineF, List.append_nil]
      rw [e0, e1, e2, e3, e4, e5, e6, e7, e8, e9, e10, e11, e12, e13, e14, e15, e16, e17, e18, e19, e20, e21, e22, e23]
      unfold cellT
      rfl
    rw [hline]
    show _ = some (((wordM m.kind ++ _), true, ()), ())
    simp only [List.append_assoc]
end Go.VP
set_option linter.unusedVariables false
set_option linter.unusedSimpArgs false
set_option maxRecDepth 100000
namespace Go.VP
open Go Go.VI
def big (n : Int) : Prop := -100000000000000000 ≤ n ∧ n ≤ 100000000000000000
structure QB (c : Nat) (m : XMsg) : Prop where
  kind : 0 ≤ m.kind ∧ m.kind ≤ 14
  cmd : big m.cmd
  ver : big m.ver
  family : big m.family
  ae : big m.ae
  plen : big m.plen
  tag : big m.tag
  metric : big m.metric
  seq : big m.seq
  seq2 : big m.seq2
  interval : big m.interval
  flags : big m.flags
  hops : big m.hops
  nonce : big m.nonce
  cost : big m.cost
  type_ : big m.type_
  auth : m.auth.length ≤ 1000
  prefix_ : m.prefix_.length ≤ 1000
  next : m.next.length ≤ 1000
  id : m.id.length ≤ 1000
  addr : m.addr.length ≤ 1000
  orig : m.orig.length ≤ 1000
  data : m.data.length ≤ 1000
  list : m.list.length ≤ c ∧ ∀ d ∈ m.list, d.addr.length ≤ 1000 ∧ big d.seq
  subs : m.subs.length ≤ c ∧ ∀ d ∈ m.subs, d.data.length ≤ 1000 ∧ big d.type_
theorem big0 : big 0 := ⟨by decide, by decide⟩
theorem big_val (s : Bs) : big (valQ s) := valM_bd s
theorem byt_le {s : Bs} (h : s.length ≤ 1000) : (bytQ s).length ≤ 1000 := Nat.le_trans (bytM_len _ s (Nat.le_refl _)) h
theorem split_sum {c d : UInt8} (h : c ≠ d) : ∀ (s : Bs), ((splitC c s).map (fun p => p.count d)).sum = s.count d
  | [] => rfl
  | x :: r => by
    have ih := split_sum h r
    rw [splitC]
    by_cases hx : x = c
    · rw [if_pos hx, List.map_cons, List.sum_cons, ih, List.count_cons_of_ne (by rw [hx]; exact h)]
      simp
    · rw [if_neg hx]
      cases hs : splitC c r with
      | nil => exact absurd hs (splitC_nn c r)
      | cons a b =>
        rw [hs] at ih
        dsimp only
        rw [List.map_cons, List.sum_cons] at ih ⊢
        rw [List.count_cons, List.count_cons, ← ih]
        omega
theorem destQ_cnt (p : Bs) : (destQ p).length ≤ p.count 58 := by
  unfold destQ
  split
  · rename_i a b hh
    have := splitC_length 58 p
    rw [hh] at this
    have h2 : ([a, b] : List Bs).length = 2 := rfl
    show 1 ≤ _
    omega
  · simp
theorem subQ_cnt (p : Bs) : (subQ p).length ≤ p.count 58 := by
  unfold subQ
  split
  · rename_i a b hh
    have := splitC_length 58 p
    rw [hh] at this
    have h2 : ([a, b] : List Bs).length = 2 := rfl
    show 1 ≤ _
    omega
  · simp
theorem flat_cnt {α : Type} {f : Bs → List α} (h : ∀ p, (f p).length ≤ p.count 58) : ∀ (l : List Bs), (l.flatMap f).length ≤ (l.map (fun p => p.count 58)).sum
  | [] => by simp
  | p :: r => by have h1 := h p; have h2 := flat_cnt h r; rw [List.flatMap_cons, List.length_append, List.map_cons, List.sum_cons]; omega
theorem split_le (c : UInt8) : ∀ (s : Bs), ∀ x ∈ splitC c s, x.length ≤ s.length
  | [], x, h => by rw [splitC] at h; rw [List.mem_singleton.1 h]; exact Nat.le_refl _
  | y :: r, x, h => by
    rw [splitC] at h
    by_cases hy : y = c
    · rw [if_pos hy] at h
      rcases List.mem_cons.1 h with rfl | h
      · simp
      · have := split_le c r x h; simp; omega
    · rw [if_neg hy] at h
      cases hr : splitC c r with
      | nil => exact absurd hr (splitC_nn c r)
      | cons a b =>
        rw [hr] at h
        rcases List.mem_cons.1 h with rfl | h
        · have := split_le c r a (by rw [hr]; simp); simp; omega
        · have := split_le c r x (by rw [hr]; simp [h]); simp; omega
theorem dests_ok {s : Bs} (hs : s.length ≤ 1000) : ((splitC 44 s).flatMap destQ).length ≤ s.count 58 ∧ ∀ d ∈ (splitC 44 s).flatMap destQ, d.addr.length ≤ 1000 ∧ big d.seq := by
  refine ⟨?_, fun d hd => ?_⟩
  · have := flat_cnt destQ_cnt (splitC 44 s)
    rw [split_sum (by decide)] at this; exact this
  · obtain ⟨p, hp, hd⟩ := List.mem_flatMap.1 hd
    have h1 := split_le 44 s p hp
    unfold destQ at hd
    split at hd
    · rename_i a b hh
      rw [List.mem_singleton] at hd
      subst hd
      have h2 := split_le 58 p a (by rw [hh]; simp)
      exact ⟨byt_le (by omega), big_val b⟩
    · cases hd
theorem subs_ok {s : Bs} (hs : s.length ≤ 1000) : ((splitC 44 s).flatMap subQ).length ≤ s.count 58 ∧ ∀ d ∈ (splitC 44 s).flatMap subQ, d.data.length ≤ 1000 ∧ big d.type_ := by
  refine ⟨?_, fun d hd => ?_⟩
  · have := flat_cnt subQ_cnt (splitC 44 s)
    rw [split_sum (by decide)] at this; exact this
  · obtain ⟨p, hp, hd⟩ := List.mem_flatMap.1 hd
    have h1 := split_le 44 s p hp
    unfold subQ at hd
    split at hd
    · rename_i a b hh
      rw [List.mem_singleton] at hd
      subst hd
      have h2 := split_le 58 p b (by rw [hh]; simp)
      exact ⟨byt_le (by omega), big_val a⟩
    · cases hd
theorem QB.mono {c d : Nat} {m : XMsg} (h : QB c m) (hc : c ≤ d) : QB d m := { h with list := ⟨Nat.le_trans h.list.1 hc, h.list.2⟩, subs := ⟨Nat.le_trans h.subs.1 hc, h.subs.2⟩ }
theorem qb_if {p : Prop} [Decidable p] {c : Nat} {x y : XMsg} (h1 : QB c x) (h2 : QB c y) : QB c (if p then x else y) := by split <;> assumption
theorem qb_more {c : Nat} {m : XMsg} {w s : Bs} (h : QB c m) (hs : s.length ≤ 1000) : QB (c + s.count 58) (moreQ m w s) := by
  have h' : QB (c + s.count 58) m := h.mono (by omega)
  have hv := big_val s
  have hb := byt_le hs
  obtain ⟨d1, d2⟩ := dests_ok hs
  obtain ⟨s1, s2⟩ := subs_ok hs
  unfold moreQ
  refine qb_if { h' with interval := hv } ?_
  refine qb_if { h' with flags := hv } ?_
  refine qb_if { h' with hops := hv } ?_
  refine qb_if { h' with nonce := hv } ?_
  refine qb_if { h' with cost := hv } ?_
  refine qb_if { h' with addr := hb } ?_
  refine qb_if { h' with orig := hb } ?_
  refine qb_if { h' with type_ := hv } ?_
  refine qb_if { h' with data := hb } ?_
  refine qb_if { h' with list := ⟨?_, fun d hd => ?_⟩ } ?_
  · have := h.list.1; rw [List.length_append]; omega
  · rcases List.mem_append.1 hd with hd | hd
    · exact h.list.2 d hd
    · exact d2 d hd
  refine qb_if { h' with subs := ⟨?_, fun d hd => ?_⟩ } h'
  · have := h.subs.1; rw [List.length_append]; omega
  · rcases List.mem_append.1 hd with hd | hd
    · exact h.subs.2 d hd
    · exact s2 d hd
theorem qb_set {c : Nat} {m : XMsg} {w s : Bs} (h : QB c m) (hs : s.length ≤ 1000) : QB (c + s.count 58) (setQ m w s) := by
  have h' : QB (c + s.count 58) m := h.mono (by omega)
  have hv := big_val s
  have hb := byt_le hs
  unfold setQ
  refine qb_if { h' with cmd := hv } ?_
  refine qb_if { h' with ver := hv } ?_
  refine qb_if { h' with auth := hb } ?_
  refine qb_if { h' with family := hv } ?_
  refine qb_if { h' with ae := hv } ?_
  refine qb_if { h' with prefix_ := hb } ?_
  refine qb_if { h' with plen := hv } ?_
  refine qb_if { h' with tag := hv } ?_
  refine qb_if { h' with next := hb } ?_
  refine qb_if { h' with metric := hv } ?_
  refine qb_if { h' with id := hb } ?_
  refine qb_if { h' with seq := hv } ?_
  refine qb_if { h' with seq2 := hv } ?_
  exact qb_more h hs
theorem qb_part {c : Nat} {m : XMsg} {p : Bs} (h : QB c m) (hp : p.length ≤ 1000) : QB (c + p.count 58) (partQ m p) := by
  unfold partQ
  split
  · rename_i a b hh
    have h1 := split_le 61 p b (by rw [hh]; simp)
    have h2 := split_sum (c := 61) (d := 58) (by decide) p
    rw [hh] at h2
    simp at h2
    exact (qb_set h (by omega)).mono (by omega)
  · exact h.mono (by omega)
theorem qb_fold : ∀ (l : List Bs) (c : Nat) (m : XMsg), QB c m → (∀ p ∈ l, p.length ≤ 1000) → QB (c + (l.map (fun p => p.count 58)).sum) (l.foldl partQ m)
  | [], c, m, h, _ => by simpa using h
  | p :: r, c, m, h, hp => by
    have h1 := qb_part h (hp p (by simp))
    have h2 := qb_fold r _ _ h1 (fun q hq => hp q (by simp [hq]))
    rw [List.foldl_cons, List.map_cons, List.sum_cons]
    exact h2.mono (by omega)
theorem qb_zero {k : Int} (h : 0 ≤ k ∧ k ≤ 14) : QB 0 (zeroM k) :=
  ⟨h, big0, big0, big0, big0, big0, big0, big0, big0, big0, big0, big0, big0, big0, big0, big0, by simp [zeroM], by simp [zeroM], by simp [zeroM], by simp [zeroM], by simp [zeroM], by simp [zeroM], by simp [zeroM], ⟨by simp [zeroM], by simp [zeroM]⟩, ⟨by simp [zeroM], by simp [zeroM]⟩⟩
theorem sum_drop (l : List Bs) (k : Nat) (f : Bs → Nat) : (((l.take k).drop 1).map f).sum ≤ (l.map f).sum := by
  have h1 : ((l.take k).map f).sum ≤ (l.map f).sum := by
    have : l.map f = (l.take k).map f ++ (l.drop k).map f := by rw [← List.map_append, List.take_append_drop]
    rw [this, List.sum_append]; omega
  have h2 : (((l.take k).drop 1).map f).sum ≤ ((l.take k).map f).sum := by
    cases l.take k with
    | nil => simp
    | cons a b => simp
  omega
theorem qb_line {s : Bs} (hs : s.length ≤ 1000) (k : Nat) {z : Int} (hz : 0 ≤ z ∧ z ≤ 14) : QB 1000 ((((splitC 32 s).take k).drop 1).foldl partQ (zeroM z)) := by
  refine (qb_fold _ 0 _ (qb_zero hz) (fun p hp => ?_)).mono ?_
  · have := split_le 32 s p (List.mem_of_mem_take (List.mem_of_mem_drop hp)); omega
  · have h1 := sum_drop (splitC 32 s) k (fun p => p.count 58)
    rw [split_sum (by decide)] at h1
    have := List.count_le_length (a := 58) (l := s)
    omega
theorem QB.small {m : XMsg} (h : QB 1000 m) : SmallM m :=
  ⟨by have := h.auth; omega, by have := h.prefix_; omega, by have := h.next; omega, by have := h.id; omega, by have := h.addr; omega, by have := h.orig; omega, by have := h.data; omega, ⟨h.list.1, fun d hd => by have := (h.list.2 d hd).1; omega⟩, ⟨h.subs.1, fun d hd => by have := (h.subs.2 d hd).1; omega⟩⟩
def kindU (w : Bs) : Nat → Int
  | 0 => 0
  | n + 1 => if wordM ((n + 1 : Nat) : Int) = w then ((n + 1 : Nat) : Int) else kindU w n
theorem kindU_is (w : Bs) : ∀ n : Nat, n ≤ 14 → (∃ j : Nat, 1 ≤ j ∧ j ≤ n ∧ wordM (j : Int) = w ∧ kindU w n = (j : Int)) ∨ ((∀ j : Nat, 1 ≤ j → j ≤ n → wordM (j : Int) ≠ w) ∧ kindU w n = 0)
  | 0, _ => .inr ⟨fun j h1 h2 => by omega, rfl⟩
  | n + 1, h => by
    unfold kindU
    by_cases hw : wordM ((n + 1 : Nat) : Int) = w
    · rw [if_pos hw]; exact .inl ⟨n + 1, by omega, Nat.le_refl _, hw, rfl⟩
    · rw [if_neg hw]
      rcases kindU_is w n (by omega) with ⟨j, h1, h2, h3, h4⟩ | ⟨h1, h2⟩
      · exact .inl ⟨j, h1, by omega, h3, h4⟩
      · refine .inr ⟨fun j h3 h4 => ?_, h2⟩
        by_cases hj : j = n + 1
        · subst hj; exact hw
        · exact h1 j h3 (by omega)
theorem kindU_M (w : Bs) : kindU w 14 = kindM w := by
  rcases kindU_is w 14 (Nat.le_refl _) with ⟨j, h1, h2, h3, h4⟩ | ⟨h1, h2⟩
  · rw [h4, ← h3]; exact (kind_word (by omega)).symm
  · rw [h2]
    by_cases hk : kindM w = 0
    · exact hk.symm
    · have := kind_rng w
      obtain ⟨j, hj⟩ : ∃ j : Nat, kindM w = j := ⟨(kindM w).toNat, by omega⟩
      exact absurd (by rw [← hj]; exact word_kind hk) (h1 j (by omega) (by omega))
end Go.VP
set_option linter.unusedVariables false
set_option linter.unusedSimpArgs false
set_option maxRecDepth 100000
namespace Go.VP
open Go Go.VI
theorem hx_digit : ∀ n, n < 16 → hxQ (digitC n) = n := by decide +kernel
theorem bytM_hexs : ∀ (s : Bs), bytQ (hexs s) = s
  | [] => rfl
  | b :: r => by
    have hb := b.toNat_lt
    rw [hexs, bytQ, hx_digit _ (by omega), hx_digit _ (by omega), bytM_hexs r, show b.toNat / 16 * 16 + b.toNat % 16 = b.toNat by omega]
    simp
theorem dig_val : ∀ n, n < 10 → ((digitC n).toNat : Int) = 48 + n := by decide +kernel
theorem val_numR : ∀ (k n : Nat), n < 10 ^ k → 1 ≤ k → (numR 10 k n).foldl (fun n b => n * 10 + (b.toNat : Int) - 48) 0 = n
  | k + 1, n, h, _ => by
    rw [numR]
    by_cases h1 : n < 10
    · rw [if_pos h1, List.foldl_cons, List.foldl_nil, dig_val n h1]; omega
    · have h2 : n / 10 < 10 ^ k := by rw [Nat.pow_succ] at h; omega
      have k1 : 1 ≤ k := by cases k with | zero => simp at h; omega | succ k => omega
      rw [if_neg h1, List.foldl_append, val_numR k (n / 10) h2 k1, List.foldl_cons, List.foldl_nil, dig_val _ (by omega)]
      omega
theorem valM_dec {n : Nat} (h : n ≤ 1099511627776) : valQ (decT n) = n := by
  have := numR_le 10 13 n
  unfold valQ decT
  rw [List.take_of_length_le (by omega)]
  exact val_numR 13 n (by omega) (by decide)
theorem split_one58 {a b : Bs} (ha : (58 : UInt8) ∉ a) (hb : (58 : UInt8) ∉ b) : splitC 58 (a ++ 58 :: b) = [a, b] := by
  rw [splitC_part 58 b a ha, splitC_one 58 b hb]
theorem destM_T {d : S_api_Dest} (h : rng d.seq) : destQ (destT (dTo d)) = [d] := by
  obtain ⟨r1, r2⟩ := rng_toNat h
  unfold destQ destT dTo
  rw [split_one58 (hexs_no 58 no58 _) (dec_no 58 no58 _)]
  dsimp only
  rw [bytM_hexs, valM_dec r2, r1]
theorem subM_T {d : S_api_Sub} (h : rng d.type_) : subQ (subT (sTo d)) = [d] := by
  obtain ⟨r1, r2⟩ := rng_toNat h
  unfold subQ subT sTo
  rw [split_one58 (dec_no 58 no58 _) (hexs_no 58 no58 _)]
  dsimp only
  rw [bytM_hexs, valM_dec r2, r1]
theorem flat_one {α : Type} {f : α → Bs} {g : Bs → List α} : ∀ (l : List α), (∀ x ∈ l, g (f x) = [x]) → (l.map f).flatMap g = l
  | [], _ => rfl
  | x :: r, h => by rw [List.map_cons, List.flatMap_cons, h x (by simp), flat_one r (fun y hy => h y (by simp [hy]))]; rfl
theorem destsM_T {l : List S_api_Dest} (hn : l ≠ []) (h : ∀ d ∈ l, rng d.seq) : (splitC 44 (listT (l.map dTo))).flatMap destQ = l := by
  unfold listT
  rw [splitC_join 44 _ (by simpa using hn) (fun p hp => by
    obtain ⟨x, _, rfl⟩ := List.mem_map.1 hp
    exact destT_no 44 no44 (by decide) x), List.map_map]
  exact flat_one l (fun d hd => destM_T (h d hd))
theorem subsM_T {l : List S_api_Sub} (hn : l ≠ []) (h : ∀ d ∈ l, rng d.type_) : (splitC 44 (subsT (l.map sTo))).flatMap subQ = l := by
  unfold subsT
  rw [splitC_join 44 _ (by simpa using hn) (fun p hp => by
    obtain ⟨x, _, rfl⟩ := List.mem_map.1 hp
    exact subT_no 44 no44 (by decide) x), List.map_map]
  exact flat_one l (fun d hd => subM_T (h d hd))
def cellsF (m : XMsg) : List (TFd XMsg) → List Bs
  | [] => []
  | f :: r => if f.get m = [] then cellsF m r else (f.w ++ 61 :: f.get m) :: cellsF m r
theorem split_line (m : XMsg) : ∀ (l : List (TFd XMsg)) (a : Bs), (32 : UInt8) ∉ a → (∀ f ∈ l, (32 : UInt8) ∉ f.w ∧ (32 : UInt8) ∉ f.get m) → splitC 32 (a ++ lineF m l) = a :: cellsF m l
  | [], a, ha, _ => by rw [lineF, List.append_nil, splitC_one 32 a ha]; rfl
  | f :: r, a, ha, h => by
    rw [lineF, cellsF]
    have hr := fun g hg => h g (List.mem_cons_of_mem _ hg)
    by_cases h0 : f.get m = []
    · rw [if_pos h0, if_pos h0, List.nil_append]; exact split_line m r a ha hr
    · obtain ⟨h1, h2⟩ := h f (by simp)
      rw [if_neg h0, if_neg h0, List.cons_append, splitC_part 32 _ a ha, split_line m r _ (by simp [h1, h2]) hr]
def FoldTo (m : XMsg) (l : List (TFd XMsg)) (m0 m1 : XMsg) : Prop := (cellsF m l).foldl partQ m0 = m1
theorem partM_of {w s : Bs} (hw : (61 : UInt8) ∉ w) (hs : (61 : UInt8) ∉ s) (m : XMsg) : partQ m (w ++ 61 :: s) = setQ m w s := by
  unfold partQ
  rw [splitC_part 61 s w hw, splitC_one 61 s hs]
theorem no61 : ix 61 = 16 := by decide +kernel
theorem num_fold {w : Bs} {g : XMsg → Int} {p : XMsg → Int → XMsg} {r : List (TFd XMsg)} {m m0 m1 : XMsg} (hw : (61 : UInt8) ∉ w) (hset : ∀ s, setQ m0 w s = p m0 (valQ s)) (hz : p m0 0 = m0) (hr : rng (g m)) (h : FoldTo m r (p m0 (g m)) m1) : FoldTo m (numF w g p :: r) m0 m1 := by
  unfold FoldTo at h ⊢
  rw [cellsF]
  by_cases h0 : g m = 0
  · rw [h0, hz] at h
    rw [if_pos (show (numF w g p).get m = [] from if_pos h0)]
    exact h
  · have e : (numF w g p).get m = decT (g m).toNat := if_neg h0
    obtain ⟨r1, r2⟩ := rng_toNat hr
    rw [if_neg (by rw [e]; exact dec_ne _), e, List.foldl_cons, partM_of (w := (numF w g p).w) hw (dec_no 61 no61 _), show (numF w g p).w = w from rfl, hset, valM_dec r2, r1]
    exact h
theorem text_fold {w : Bs} {g : XMsg → Bs} {p : XMsg → Bs → XMsg} {r : List (TFd XMsg)} {m m0 m1 : XMsg} (hw : (61 : UInt8) ∉ w) (hset : ∀ s, setQ m0 w s = p m0 (bytQ s)) (hz : p m0 [] = m0) (h : FoldTo m r (p m0 (g m)) m1) : FoldTo m (textF w g p :: r) m0 m1 := by
  unfold FoldTo at h ⊢
  rw [cellsF]
  by_cases h0 : g m = []
  · rw [h0, hz] at h
    rw [if_pos (show (textF w g p).get m = [] from (hexs_nil _).2 h0)]
    exact h
  · have e : hexs (g m) ≠ [] := fun e => h0 ((hexs_nil _).1 e)
    rw [if_neg (show ¬ (textF w g p).get m = [] from e), show (textF w g p).get m = hexs (g m) from rfl, List.foldl_cons, partM_of (w := (textF w g p).w) hw (hexs_no 61 no61 _), show (textF w g p).w = w from rfl, hset, bytM_hexs]
    exact h
theorem list_no61 (l : List (Bs × Nat)) : (61 : UInt8) ∉ listT l := joinC_no 61 44 (by decide) _ (fun p hp => by
  obtain ⟨x, _, rfl⟩ := List.mem_map.1 hp
  exact destT_no 61 no61 (by decide) x)
theorem subs_no61 (l : List (Nat × Bs)) : (61 : UInt8) ∉ subsT l := joinC_no 61 44 (by decide) _ (fun p hp => by
  obtain ⟨x, _, rfl⟩ := List.mem_map.1 hp
  exact subT_no 61 no61 (by decide) x)
theorem list_fold {w : Bs} {g : XMsg → List S_api_Dest} {p : XMsg → List S_api_Dest → XMsg} {r : List (TFd XMsg)} {m m0 m1 : XMsg} (hw : (61 : UInt8) ∉ w) (hset : ∀ s, setQ m0 w s = p m0 ((splitC 44 s).flatMap destQ)) (hz : p m0 [] = m0) (hr : ∀ d ∈ g m, rng d.seq) (h : FoldTo m r (p m0 (g m)) m1) : FoldTo m (listFd w g p :: r) m0 m1 := by
  unfold FoldTo at h ⊢
  rw [cellsF]
  by_cases h0 : g m = []
  · rw [h0, hz] at h
    rw [if_pos (show (listFd w g p).get m = [] from (listT_nil _).2 (by rw [h0]; rfl))]
    exact h
  · have e : (g m).map dTo ≠ [] := by simpa using h0
    rw [if_neg (show ¬ (listFd w g p).get m = [] from fun x => e ((listT_nil _).1 x)), show (listFd w g p).get m = listT ((g m).map dTo) from rfl, List.foldl_cons, partM_of (w := (listFd w g p).w) hw (list_no61 _), show (listFd w g p).w = w from rfl, hset, destsM_T h0 hr]
    exact h
theorem subs_fold {w : Bs} {g : XMsg → List S_api_Sub} {p : XMsg → List S_api_Sub → XMsg} {r : List (TFd XMsg)} {m m0 m1 : XMsg} (hw : (61 : UInt8) ∉ w) (hset : ∀ s, setQ m0 w s = p m0 ((splitC 44 s).flatMap subQ)) (hz : p m0 [] = m0) (hr : ∀ d ∈ g m, rng d.type_) (h : FoldTo m r (p m0 (g m)) m1) : FoldTo m (subsFd w g p :: r) m0 m1 := by
  unfold FoldTo at h ⊢
  rw [cellsF]
  by_cases h0 : g m = []
  · rw [h0, hz] at h
    rw [if_pos (show (subsFd w g p).get m = [] from (subsT_nil _).2 (by rw [h0]; rfl))]
    exact h
  · have e : (g m).map sTo ≠ [] := by simpa using h0
    rw [if_neg (show ¬ (subsFd w g p).get m = [] from fun x => e ((subsT_nil _).1 x)), show (subsFd w g p).get m = subsT ((g m).map sTo) from rfl, List.foldl_cons, partM_of (w := (subsFd w g p).w) hw (subs_no61 _), show (subsFd w g p).w = w from rfl, hset, subsM_T h0 hr]
    exact h
theorem foldAll {m : XMsg} (h : Nums m) : FoldTo m fsM (zeroM m.kind) m := by
  refine num_fold (by decide) (fun _ => rfl) rfl h.cmd ?_
  refine num_fold (by decide) (fun _ => rfl) rfl h.ver ?_
  refine text_fold (by decide) (fun _ => rfl) rfl ?_
  refine num_fold (by decide) (fun _ => rfl) rfl h.family ?_
  refine num_fold (by decide) (fun _ => rfl) rfl h.ae ?_
  refine text_fold (by decide) (fun _ => rfl) rfl ?_
  refine num_fold (by decide) (fun _ => rfl) rfl h.plen ?_
  refine num_fold (by decide) (fun _ => rfl) rfl h.tag ?_
  refine text_fold (by decide) (fun _ => rfl) rfl ?_
  refine num_fold (by decide) (fun _ => rfl) rfl h.metric ?_
  refine text_fold (by decide) (fun _ => rfl) rfl ?_
  refine num_fold (by decide) (fun _ => rfl) rfl h.seq ?_
  refine num_fold (by decide) (fun _ => rfl) rfl h.seq2 ?_
  refine num_fold (by decide) (fun _ => rfl) rfl h.interval ?_
  refine num_fold (by decide) (fun _ => rfl) rfl h.flags ?_
  refine num_fold (by decide) (fun _ => rfl) rfl h.hops ?_
  refine num_fold (by decide) (fun _ => rfl) rfl h.nonce ?_
  refine num_fold (by decide) (fun _ => rfl) rfl h.cost ?_
  refine text_fold (by decide) (fun _ => rfl) rfl ?_
  refine text_fold (by decide) (fun _ => rfl) rfl ?_
  refine list_fold (by decide) (fun _ => rfl) rfl h.list ?_
  refine num_fold (by decide) (fun _ => rfl) rfl h.type_ ?_
  refine text_fold (by decide) (fun _ => rfl) rfl ?_
  refine subs_fold (by decide) (fun _ => rfl) rfl h.subs ?_
  show _ = m
  cases m
  rfl
theorem foldM_print {m : XMsg} {s : Bs} (h : printM m = some s) : foldQ s = m := by
  unfold printM at h
  split at h
  · rename_i hb
    injection h with h
    have hk := bare_kind hb.1
    have hsp := split_line m fsM (wordM m.kind) (word_no _) (fun f hf => ⟨(fsM_words.mem f hf).1, get_no m f hf⟩)
    rw [h] at hsp
    unfold foldQ
    rw [hsp, List.drop_one, List.tail_cons, List.getD_cons_zero, kind_word hk]
    exact foldAll hb.2
  · cases h
theorem read_fold (s : Bs) : (printM (foldQ s) = some s → readL s = some (foldQ s)) ∧ (¬ printM (foldQ s) = some s → readL s = none) := by
  refine ⟨fun h => read_iff.2 h, fun h => ?_⟩
  cases hr : readL s with
  | none => rfl
  | some m =>
    have h1 := read_iff.1 hr
    exact absurd (by rw [foldM_print h1]; exact h1) h
end Go.VP
