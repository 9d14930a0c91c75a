import Derived.Test.YtjdlhgdklmkkhaaGreatK3KOk
import Derived.Test.YtjdlhgdklmkkhaaGreatK3M0
import Derived.WalkKit
set_option linter.unusedVariables false
set_option linter.unusedSimpArgs false
namespace Go.Proofs
open Go.RowKit
theorem bY5 (w:World) (B:Nat):Below B w w.drew:=⟨rfl,rfl,rfl,Nat.le_refl _,fun _ _=>rfl⟩
end Go.Proofs
namespace Go.VI
open Go Go.Proofs Go.RowKit Go.VP
theorem fa2 {w:World} {I:Nat→Nat→Prop} {s:List UInt8} {v:Value} (h:PC Tryz.prog U w I (.str s) v):v=.string ⟨⟨s⟩⟩:=by
 cases h with
 | str _ hs=>rfl
 | nil _ e f h1 h2=>cases h1
 | emp _ e p cap h1=>cases h1
 | row _ e css f b off cap h1=>cases h1
theorem fa3 {w:World} {I:Nat→Nat→Prop} {k:IntKind} {n:Int} {v:Value} (h:PC Tryz.prog U w I (.int k n) v):v=.int k n∧k.has n:=by
 cases h with
 | int _ _ hk=>exact ⟨rfl,hk⟩
 | nil _ e f h1 h2=>cases h1
 | emp _ e p cap h1=>cases h1
 | row _ e css f b off cap h1=>cases h1
theorem fa4 {x:Int} (h : -9223372036854775808≤x∧x≤9223372036854775807):IntKind.has .i64 x:=by
 unfold IntKind.has; exact ⟨by rw [show IntKind.i64.min = -9223372036854775808 from rfl]; exact h.1,by rw [show IntKind.i64.max=9223372036854775807 from rfl]; exact h.2⟩
abbrev noI:Nat→Nat→Prop:=fun _ _=>False
theorem eL7 (w:World):∀ b o,noI b o→(w.cell? ⟨b,o,none⟩).isSome=true:=fun _ _ h=>h.elim
theorem el3 {f:Nat} {ar:List (Arg U.τ)} {out:Out U.τ} {vs:Array Value} {w:World} {I:Nat→Nat→Prop} (h:aI4 Tryz.prog U f ar out)
  (ha:aj7 Tryz.prog U w I (fun _=>none) (fun _=>(0,0)) ar vs.toList 0) (hi:∀ b o,I b o→(w.cell? ⟨b,o,none⟩).isSome=true) (henv:U.env w) (hn:U.nb≤w.heap.size) :
  Calls Tryz.prog f vs w fun e w'=>∃ u,e=.returned u∧Below w.heap.size w w'∧∃ J:Nat→Nat→Prop,(∀ b o,J b o→I b o∨w.heap.size≤b)∧aZ6 Tryz.prog U w' J out.ret u:=by
 have:=h.2 ⟨I,fun _=>(0,0),fun _=>none⟩ w vs.toList ha hi (fun b L hb=>by cases hb) ⟨henv,hn,fun _ _=>rfl⟩
 rw [show vs.toList.toArray=vs by simp] at this
 refine this.mono fun e w' ⟨u,G',he,hs,hr,_⟩=>⟨u,he,⟨hs.os,hs.tape,hs.output,hs.size,fun k hk=>hs.old k hk rfl⟩,G'.I,fun b o hb=>?_,hr⟩
 rcases hs.newI b o hb with h1 | h1 | h1
 ·exact .inl h1
 ·exact .inr h1
 ·cases h1
theorem eU4 {w:World} {I:Nat→Nat→Prop} {s:List UInt8} {u:Value} (h:aZ6 Tryz.prog U w I (.one (.str s)) u):u=.string ⟨⟨s⟩⟩:=fa2 h
theorem eL8 {w:World} {n:Int} {I:Nat→Nat→Prop} (hn : -9223372036854775808≤n∧n≤9223372036854775807):aj7 Tryz.prog U w I (fun _=>none) (fun _=>(0,0)) [.val false [.int .i64 n]] [.int .i64 n] 0:=
 .val _ _ _ _ _ _ ⟨_,rfl,.int _ _ (fa4 hn)⟩ (.nil _)
theorem fd7 {f:Nat} {sg:Sig τ} {g:sg.A→Option sg.B} (h:OkE ⟨f,sg,g⟩) (x:sg.A) (r:sg.B) (hx:g x=some r):aI4 Tryz.prog U f (ar2 sg.ps x) (sg.out r):=h x r hx
end Go.VI
namespace Go.Proofs
open Go.RowKit Go.VI
theorem Tryz.word_w (k:Int) (w:World) (hk : -9223372036854775808≤k∧k≤9223372036854775807) (henv:U.env w) (hw:U.nb≤w.heap.size) :
  Calls Tryz.prog 52 #[.int .i64 k] w fun e w'=>e=.returned (.string ⟨⟨Go.VP.wordM k⟩⟩)∧Below w.heap.size w w':=by
 have h:=fd7 dH4 (k,()) _ (Go.VP.kword_is k)
 refine (el3 (I:=noI) h (eL8 hk) (eL7 w) henv hw).mono fun e w' ⟨u,he,hb,J,_,hr⟩=>?_
 rw [eU4 hr] at he
 exact ⟨he,hb⟩
end Go.Proofs
