import Derived.Test.YtjdlhgdklmkkhaaGreatK3KAwake
set_option linter.unusedVariables false
set_option linter.unusedSimpArgs false
set_option maxRecDepth 100000
namespace Go.Proofs
open Go.RowKit
theorem Tryz.loadB_w (a:Addr) (n:Int) (w:World) (hc:w.cell? a=some (.int .u32 n)) :
  Calls Tryz.prog 28 #[.pointer (some a)] w fun e w'=>e=.returned (.bool (n != 0))∧w'=w:=by
 have hl:=run_call_load (P:=Tryz.prog) Tryz.func45 (by kernel_rfl) (by kernel_rfl) (by kernel_rfl) .u32 (by kernel_rfl) (w:=w) (a:=a) (x:=n) hc
 go_enter Tryz.func28,Tryz.ntmps28
 go_wp2
 go_ret
 exact ⟨rfl,rfl⟩
theorem Tryz.loadI_w (a:Addr) (n:Int) (w:World) (hc:w.cell? a=some (.int .i64 n)) :
  Calls Tryz.prog 24 #[.pointer (some a)] w fun e w'=>e=.returned (.int .i64 n)∧w'=w:=by
 have hl:=run_call_load (P:=Tryz.prog) Tryz.func43 (by kernel_rfl) (by kernel_rfl) (by kernel_rfl) .i64 (by kernel_rfl) (w:=w) (a:=a) (x:=n) hc
 go_enter Tryz.func24,Tryz.ntmps24
 go_wp2
 go_ret
 exact ⟨rfl,rfl⟩
theorem Tryz.addI_w (a:Addr) (n d:Int) (w:World) (hc:w.cell? a=some (.int .i64 n)) (hz:w.frozen? a=false) :
  Calls Tryz.prog 48 #[.pointer (some a),.int .i64 d] w fun e w'=>e=.returned (.int .i64 (IntKind.i64.wrap (n+d)))∧w'=w.setCell a (.int .i64 (IntKind.i64.wrap (n+d))):=by
 have hl:=run_call_add (P:=Tryz.prog) Tryz.func89 (by kernel_rfl) (by kernel_rfl) (by kernel_rfl) .i64 (by kernel_rfl) (y:=d) (s:=IntKind.i64.wrap (n+d)) hc hz (by simp [Op.intArith])
 go_enter Tryz.func48,Tryz.ntmps48
 go_wp2
 go_ret
 rw [IntWalk.i64_left]
 exact ⟨rfl,rfl⟩
theorem Tryz.cas_no (a:Addr) (n:Int) (w:World) (hn:¬n=0) (hc:w.cell? a=some (.int .u32 n)) (hz:w.frozen? a=false) :
  Calls Tryz.prog 22 #[.pointer (some a),.bool false,.bool true] w fun e w'=>e=.returned (.bool false)∧w'=w.drew:=by
 have hc':w.drew.cell? a=some (.int .u32 n):=by go_simp
 have hz':w.drew.frozen? a=false:=by go_simp
 have hcas:=run_call_cas_miss (P:=Tryz.prog) Tryz.func41 (by kernel_rfl) (by kernel_rfl) (by kernel_rfl) .u32 (by kernel_rfl) (x:=n) (o:=0) (y:=1) hc' hz' hn
 go_enter Tryz.func22,Tryz.ntmps22
 go_wp2
 go_region_calls
 go_wp2
 go_ret
 exact ⟨rfl,rfl⟩
end Go.Proofs
namespace Go.VI
open Go Go.Proofs Go.RowKit
theorem ee7 {w:World} {I:Nat→Nat→Prop} {b:Bool} {v:Value} (h:PC Tryz.prog U w I (.bool b) v):v=.bool b:=by
 cases h with
 | bool _=>rfl
 | nil _ e f h1 h2=>cases h1
 | emp _ e p cap h1=>cases h1
 | row _ e css f b off cap h1=>cases h1
theorem bT1:OkE ar9:=by
 have key:∀ (n:Int) (r:(Bool × Unit) × (ag5 × Unit)),bd7 (⟨n⟩,())=some r→aI4 Tryz.prog U 28 [.ptr [.int .u32 n]] (aW0.out r):=by
  intro n r h
  injection h with h
  subst h
  refine ca8 (ar0 Tryz.func28 (by kernel_rfl) (by kernel_rfl)) rfl (.inl rfl) (fun G0 w b o vs ha hk hc hz=>?_)
  cases ha
  refine (Tryz.loadB_w ⟨b,o,none⟩ n w hc).mono fun e w' ⟨he,hw⟩=>?_
  exact ⟨_,he,fun w2 I=>PC.bool _,w,rfl,rfl,rfl,rfl,.inr ⟨hw,rfl⟩⟩
 intro x r h
 exact key x.1.v r h
theorem bL7:OkE aB3:=by
 have key:∀ (n:Int) (r:(Int × Unit) × (af6 × Unit)),aV8 (⟨n⟩,())=some r→aI4 Tryz.prog U 24 [.ptr [.int .i64 n]] (aU4.out r):=by
  intro n r h
  injection h with h
  subst h
  refine ca8 (ar0 Tryz.func24 (by kernel_rfl) (by kernel_rfl)) rfl (.inl rfl) (fun G0 w b o vs ha hk hc hz=>?_)
  cases ha
  refine (Tryz.loadI_w ⟨b,o,none⟩ n w hc).mono fun e w' ⟨he,hw⟩=>?_
  exact ⟨_,he,fun w2 I=>PC.int _ _ hk,w,rfl,rfl,rfl,rfl,.inr ⟨hw,rfl⟩⟩
 intro x r h
 exact key x.1.v r h
theorem bT2:OkE aC6:=by
 have key:∀ (n d:Int) (r:(Int × Unit) × (af6 × Unit)),bd8 (⟨n⟩,d,())=some r→aI4 Tryz.prog U 48 [.ptr [.int .i64 n],.val false [.int .i64 d]] (aW9.out r):=by
  intro n d r h
  injection h with h
  subst h
  refine ca8 (ar0 Tryz.func48 (by kernel_rfl) (by kernel_rfl)) rfl (.inr (IntKind.has_wrap _ _)) (fun G0 w b o vs ha hk hc hz=>?_)
  cases ha with
  | val ag cs u az us j h1 h2=>
   cases h2
   obtain ⟨c,hc1,h1⟩:=h1
   cases hc1
   rw [(fa3 h1).1]
   refine (Tryz.addI_w ⟨b,o,none⟩ n d w hc hz).mono fun e w' ⟨he,hw⟩=>?_
   exact ⟨_,he,fun w2 I=>PC.int _ _ (IntKind.has_wrap _ _),w,rfl,rfl,rfl,rfl,.inl hw⟩
 intro x r h
 exact key x.1.v x.2.1 r h
theorem aY5:OkE ao4:=by
 have key:∀ (n:Int) (p q:Bool) (r:(Bool × Unit) × (ag5 × Unit)),ao3 (⟨n⟩,p,q,())=some r→aI4 Tryz.prog U 22 [.ptr [.int .u32 n],.val false [.bool p],.val false [.bool q]] (aw9.out r):=by
  intro n p q r h
  unfold ao3 at h
  dsimp only at h
  by_cases hpq:p=false∧q=true
  ·rw [if_pos hpq] at h
   obtain ⟨rfl,rfl⟩:=hpq
   have args:∀ (w:World) I who loc vs,aj7 Tryz.prog U w I who loc [.val false [.bool false],.val false [.bool true]] vs 1→vs=[.bool false,.bool true]:=fun w I who loc vs ha=>by
    cases ha with
    | val ag cs u az us j h1 h2=>
     cases h2 with
     | val ag cs u2 az us j h3 h4=>
      cases h4
      obtain ⟨c,hc1,h1⟩:=h1
      cases hc1
      obtain ⟨c,hc1,h3⟩:=h3
      cases hc1
      rw [ee7 h1,ee7 h3]
   by_cases h0:n=0
   ·rw [if_pos h0] at h
    injection h with h
    subst h
    subst h0
    refine ca8 (ar0 Tryz.func22 (by kernel_rfl) (by kernel_rfl)) rfl (.inr (show IntKind.u32.has 1 from ⟨by decide,by decide⟩)) (fun G0 w b o vs ha hk hc hz=>?_)
    rw [args _ _ _ _ _ ha]
    refine (Tryz.cas_open ⟨b,o,none⟩ w hc hz).mono fun e w' ⟨he,hw⟩=>?_
    exact ⟨_,he,fun w2 I=>PC.bool _,w.drew,rfl,rfl,rfl,rfl,.inl hw⟩
   ·rw [if_neg h0] at h
    injection h with h
    subst h
    refine ca8 (ar0 Tryz.func22 (by kernel_rfl) (by kernel_rfl)) rfl (.inl rfl) (fun G0 w b o vs ha hk hc hz=>?_)
    rw [args _ _ _ _ _ ha]
    refine (Tryz.cas_no ⟨b,o,none⟩ n w h0 hc hz).mono fun e w' ⟨he,hw⟩=>?_
    exact ⟨_,he,fun w2 I=>PC.bool _,w.drew,rfl,rfl,rfl,rfl,.inr ⟨hw,rfl⟩⟩
  ·rw [if_neg hpq] at h; cases h
 intro x r h
 exact key x.1.v x.2.1 x.2.2.1 r h
theorem dr6:OkE bM9:=by
 intro x r h
 injection h with h
 subst h
 refine eZ5 (ar0 Tryz.func8 (by kernel_rfl) (by kernel_rfl)) rfl (fun G0 w vs ha henv=>?_)
 cases ha
 refine (Tryz.awake30_w w).mono fun e w' ⟨he,hb⟩=>?_
 exact ⟨_,he,hb,fun _ _=>False,fun _ _ h=>h.elim,PC.bool _⟩
end Go.VI
