/-
  Two readers beside one another. A part of the proof: see the head of the text that ends in 'Law'.
-/
import Derived.Test.YtlddhgnecfgnkaaLi27
namespace Go.Proofs.Ytlddhgnecfgnkaa
open Go.RowKit
set_option linter.unusedVariables false
attribute [local go_sem] Oper.semAt_some

/-- Two readers that share nothing, and none of the blocks of U. -/
def Two (w0 W : World) (r q : Nat) (R Q : Rdr) (U : Nat → Prop) : Prop := ∃ VP VH VQ HQ, RdAt W w0.heap.size r VP VH R ∧ RdAt W w0.heap.size q VQ HQ Q ∧ (∀ g, RM r VP VH g → ¬ RM q VQ HQ g) ∧ ∀ g, U g → g < W.heap.size ∧ ¬ RM r VP VH g ∧ ¬ RM q VQ HQ g
def noU (g : Nat) : Prop := False
theorem Two.only {w0 W W' : World} {r q : Nat} {R Q : Rdr} {U U' : Nat → Prop} (h : Two w0 W r q R Q U) (hO : Only U W W') (hU : ∀ g, U' g → U g ∨ W.heap.size ≤ g ∧ g < W'.heap.size) : Two w0 W' r q R Q U' := by
  obtain ⟨VP, VH, VQ, HQ, h1, h2, h3, h4⟩ := h
  refine ⟨VP, VH, VQ, HQ, h1.only hO (fun g hg => (h4 g hg).2.1), h2.only hO (fun g hg => (h4 g hg).2.2), h3, fun g hg => ?_⟩
  rcases hU g hg with h5 | h5
  · have := h4 g h5
    have := hO.size
    exact ⟨by omega, (h4 g h5).2⟩
  · refine ⟨h5.2, fun h6 => ?_, fun h6 => ?_⟩
    · have := (h1.mine g h6).2
      omega
    · have := (h2.mine g h6).2
      omega
theorem Two.below {w0 W W' : World} {r q : Nat} {R Q : Rdr} {U : Nat → Prop} (h : Two w0 W r q R Q U) (hb : Below W.heap.size W W') : Two w0 W' r q R Q U := h.only (Only.of_below hb) (fun g hg => .inl hg)
theorem Two.swap {w0 W : World} {r q : Nat} {R Q : Rdr} {U : Nat → Prop} (h : Two w0 W r q R Q U) : Two w0 W q r Q R U := by
  obtain ⟨VP, VH, VQ, HQ, h1, h2, h3, h4⟩ := h
  exact ⟨VQ, HQ, VP, VH, h2, h1, fun g h4 h5 => h3 g h5 h4, fun g hg => ⟨(h4 g hg).1, (h4 g hg).2.2, (h4 g hg).2.1⟩⟩
theorem Two.new {w0 W W' : World} {r : Nat} {R : Rdr} (h : RSt w0 W r R) (hb : Below W.heap.size W W') (h2 : RdAt W' W.heap.size W.heap.size (.slice none 0 0) (.slice none 0 0) nilR) (hw : w0.heap.size ≤ W.heap.size) : Two w0 W' r W.heap.size R nilR noU := by
  obtain ⟨VP, VH, h1⟩ := h
  refine ⟨VP, VH, .slice none 0 0, .slice none 0 0, h1.below hb, ⟨hw, h2.cells, own_low h2.ps hw, own_low h2.hv hw⟩, fun g hg hq => ?_, fun g hg => absurd hg id⟩
  have := (h1.mine g hg).2
  rcases hq with e | e | e
  · omega
  · simp [Value.ownBlock] at e
  · simp [Value.ownBlock] at e
/-- What Feed leaves where another reader stands beside it. -/
structure TwoP (w0 X : World) (r q : Nat) (R' Q : Rdr) (U : Nat → Prop) (xs : List Inp) (A : Option Addr) (n c : Nat) (w' : World) : Prop where
  len : n = xs.length
  out : OutS w' X.heap.size A n c xs
  two : Two w0 w' r q R' Q U
  bel : Below w0.heap.size w0 w'
  keep : ∀ b A n c xs, OutS X b A n c xs → OutS w' b A n c xs
  bytes : ∀ V n xs, X.ownsRow w0.heap.size 5 1 V n xs → (∀ g, Value.ownBlock V = some g → U g) → w'.ownsRow w0.heap.size 5 1 V n xs
  size : X.heap.size ≤ w'.heap.size
theorem feed_two (w0 X : World) (r q : Nat) (R Q : Rdr) (U : Nat → Prop) (A : Option Addr) (n c : Nat) (l : List UInt8) (h : Two w0 X r q R Q U) (bel : Below w0.heap.size w0 X) (hG : GM w0) (hok : Rok R) (hl : Oct X A n l) (hn : n ≤ 100000) (hA : ∀ a, A = some a → l ≠ [] → a.block < w0.heap.size ∨ U a.block) :
    Calls Try.prog 10 #[.pointer (some ⟨r, 0, none⟩), .slice A n c] X fun e w' => ∃ A' n' c', e = .returned (.slice A' n' c') ∧ TwoP w0 X r q (feedR R l).1 Q U (feedR R l).2 A' n' c' w' := by
  obtain ⟨VP, VH, VQ, HQ, h1, h2, h3, h4⟩ := h
  refine (feed_any w0 X r VP VH R A n c l h1 bel hG hok hl hn (fun a ha hne hm => by
    have := (h1.mine _ hm).1
    rcases hA a ha hne with h5 | h5
    · omega
    · exact (h4 _ h5).2.1 hm)).mono ?_
  rintro e w' ⟨A', n', c', vs, he, hn', ho', hi, VP', VH', k1, k2⟩
  refine ⟨A', n', c', he, hn', ⟨hn', vs, ho', hi⟩, ⟨VP', VH', VQ, HQ, k1, h2.only k2.o h3, fun g hg hq => ?_, fun g hg => ⟨?_, fun h6 => ?_, (h4 g hg).2.2⟩⟩, bel.trans (k2.below h1 bel.size), fun b A n c xs k => ?_, fun V n xs k hU => ?_, k2.o.size⟩
  · rcases k2.n g hg with h5 | h5
    · exact h3 g h5 hq
    · have := (h2.mine g hq).2
      omega
  · have := (h4 g hg).1
    have := k2.o.size
    omega
  · rcases k2.n g h6 with h5 | h5
    · exact (h4 g hg).2.1 h5
    · have := (h4 g hg).1
      omega
  · obtain ⟨e1, us, e2, e3⟩ := k
    exact ⟨e1, us, h1.row k2 e2 (by decide) (by decide) (by decide), e3.keep (fun v n ys q => h1.row k2 q (by decide) (by decide) (by decide))⟩
  · exact own_only k k2.o (fun g hg hr => (h4 g (hU g hg)).2.1 hr)
theorem wait_two {w0 X : World} {r q : Nat} {R Q : Rdr} {U : Nat → Prop} (h : Two w0 X r q R Q U) : Calls Try.prog 12 #[.pointer (some ⟨r, 0, none⟩)] X fun e w' => e = .returned (.int .i64 (R.wait : Int)) ∧ X = w' := by
  obtain ⟨VP, VH, VQ, HQ, h1, h2, h3, h4⟩ := h
  exact waits_any h1
end Go.Proofs.Ytlddhgnecfgnkaa
