import Derived.Test.YtjdlhgdklmkkhaaGreatSpKOk
import Derived.Test.YtjdlhgdklmkkhaaGreatSpM0
import Derived.WalkKit
set_option linter.unusedVariables false
set_option linter.unusedSimpArgs false
namespace Go.Proofs
open Go.RowKit
theorem wO (w:World) (B:Nat):Below B w w.drew:=⟨rfl,rfl,rfl,Nat.le_refl _,fun _ _=>rfl⟩
end Go.Proofs
namespace Go.VI
open Go Go.Proofs Go.RowKit Go.VP
theorem fZ9 {w:World} {I:Nat->Nat->Prop} {s:at1} {v:Value} (h:PC Tryz.prog U w I (.str s) v):v=.string ⟨⟨s⟩⟩:=by
 cases h with
 | str _ hs=>rfl
 | nil _ e f h1 h2=>cases h1
 | emp _ e p cap h1=>cases h1
 | row _ e css f b off cap h1=>cases h1
theorem g00 {w:World} {I:Nat->Nat->Prop} {k:IntKind} {n:Int} {v:Value} (h:PC Tryz.prog U w I (.int k n) v):v=.int k n/\k.has n:=by
 cases h with
 | int _ _ hk=>exact ⟨rfl,hk⟩
 | nil _ e f h1 h2=>cases h1
 | emp _ e p cap h1=>cases h1
 | row _ e css f b off cap h1=>cases h1
theorem g01 {x:Int} (h : -9223372036854775808<=x/\x<=9223372036854775807):IntKind.has .i64 x:=by
 unfold IntKind.has; exact ⟨by rw [show IntKind.i64.min = -9223372036854775808 from rfl]; exact h.1,by rw [show IntKind.i64.max=9223372036854775807 from rfl]; exact h.2⟩
abbrev JS:Nat->Nat->Prop:=fun _ _=>False
theorem fJ9 (w:World):∀ b o,JS b o->(w.cell? ⟨b,o,none⟩).isSome=true:=fun _ _ h=>h.elim
theorem ff2 {f:Nat} {ar:List (ek U.τ)} {out:gQ U.τ} {vs:Array Value} {w:World} {I:Nat->Nat->Prop} (h:jM Tryz.prog U f ar out)
  (ha:fR Tryz.prog U w I (fun _=>none) (fun _=>(0,0)) ar vs.toList 0) (hi:∀ b o,I b o->(w.cell? ⟨b,o,none⟩).isSome=true) (henv:U.env w) (hn:U.nb<=w.heap.size) :
  Calls Tryz.prog f vs w fun e w'=>∃ u,e=.returned u/\Below w.heap.size w w'/\∃ J:Nat->Nat->Prop,(∀ b o,J b o->I b o\/w.heap.size<=b)/\jE Tryz.prog U w' J out.ret u:=by
 have:=h.2 ⟨I,fun _=>(0,0),fun _=>none⟩ w vs.toList ha hi (fun b L hb=>by cases hb) ⟨henv,hn,fun _ _=>rfl⟩;rw [show vs.toList.toArray=vs by simp] at this;refine this.mono fun e w' ⟨u,G',he,hs,hr,_⟩=>⟨u,he,⟨hs.os,hs.tape,hs.output,hs.size,fun k hk=>hs.old k hk rfl⟩,G'.I,fun b o hb=>?_,hr⟩
 rcases hs.newI b o hb with h1 | h1 | h1
 ·exact .inl h1
 ·exact .inr h1
 ·cases h1
theorem fU0 {w:World} {I:Nat->Nat->Prop} {s:at1} {u:Value} (h:jE Tryz.prog U w I (.one (.str s)) u):u=.string ⟨⟨s⟩⟩:=fZ9 h
theorem Z0 {w:World} {n:Int} {I:Nat->Nat->Prop} (hn : -9223372036854775808<=n/\n<=9223372036854775807):fR Tryz.prog U w I (fun _=>none) (fun _=>(0,0)) [.val false [.int .i64 n]] [.int .i64 n] 0:=
 .val _ _ _ _ _ _ ⟨_,rfl,.int _ _ (g01 hn)⟩ (.nil _)
theorem g45 {f:Nat} {sg:bT τ} {g:sg.A->Option sg.B} (h:bI ⟨f,sg,g⟩) (x:sg.A) (r:sg.B) (hx:g x=some r):jM Tryz.prog U f (iM sg.ps x) (sg.out r):=h x r hx
end Go.VI
namespace Go.Proofs
open Go.RowKit Go.VI
theorem Tryz.word_w (k:Int) (w:World) (hk : -9223372036854775808<=k/\k<=9223372036854775807) (henv:U.env w) (hw:U.nb<=w.heap.size) :
  Calls Tryz.prog 52 #[.int .i64 k] w fun e w'=>e=.returned (.string ⟨⟨Go.VP.wordM k⟩⟩)/\Below w.heap.size w w':=by
 have h:=g45 Y0 (k,()) _ (Go.VP.kword_is k);refine (ff2 (I:=JS) h (Z0 hk) (fJ9 w) henv hw).mono fun e w' ⟨u,he,hb,J,_,hr⟩=>?_
 rw [fU0 hr] at he;exact ⟨he,hb⟩
end Go.Proofs
