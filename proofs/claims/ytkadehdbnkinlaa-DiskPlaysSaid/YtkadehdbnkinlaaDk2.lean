/-
  A disk in memory: what it is there, and its small words. A part of the proof: see the head of the text that ends in 'Law'.
-/
import Derived.Test.YtkadehdbnkinlaaDk1
namespace Go.Proofs.Ytkadehdbnkinlaa
open Go.RowKit
set_option linter.unusedVariables false
attribute [local go_sem] Oper.semAt_some

/-- Nothing but blocks of T is changed; blocks may be added. -/
structure Only (T : Nat → Prop) (w w' : World) : Prop where
  os : w'.os = w.os
  tape : w'.tape = w.tape
  output : w'.output = w.output
  size : w.heap.size ≤ w'.heap.size
  block : ∀ k, k < w.heap.size → ¬ T k → w'.heap[k]? = w.heap[k]?
theorem Only.refl (T : Nat → Prop) (w : World) : Only T w w := ⟨rfl, rfl, rfl, Nat.le_refl _, fun _ _ _ => rfl⟩
theorem Only.trans {T T' : Nat → Prop} {a b c : World} (h : Only T a b) (h2 : Only T' b c) (ht : ∀ g, T' g → T g ∨ a.heap.size ≤ g) : Only T a c :=
  ⟨h2.os.trans h.os, h2.tape.trans h.tape, h2.output.trans h.output, Nat.le_trans h.size h2.size, fun k hk hn =>
    (h2.block k (Nat.lt_of_lt_of_le hk h.size) (fun h3 => by rcases ht k h3 with h4 | h4; exact hn h4; omega)).trans (h.block k hk hn)⟩
theorem Only.of_below {T : Nat → Prop} {a b : World} (h : Below a.heap.size a b) : Only T a b := ⟨h.os, h.tape, h.output, h.size, fun k hk _ => h.block k hk⟩
theorem Only.of_grown {T : Nat → Prop} {a b : World} {row : Option Nat} (h : a.grownBy b row) (hr : ∀ g, row = some g → T g) : Only T a b :=
  ⟨h.os, h.tape, h.output, h.size, fun k hk hn => h.block k hk (fun e => hn (hr k e.symm))⟩
theorem Only.of_set {T : Nat → Prop} (a : World) (p : Addr) (v : Value) (hp : T p.block) : Only T a (a.setCell p v) :=
  ⟨rfl, rfl, rfl, by simp, fun k hk hn => heap_setCell_other a p k v (fun e => hn (e ▸ hp))⟩
theorem Only.below {T : Nat → Prop} {a b : World} {B : Nat} (h : Only T a b) (hB : B ≤ a.heap.size) (ht : ∀ g, T g → B ≤ g) : Below B a b :=
  ⟨h.os, h.tape, h.output, h.size, fun k hk => h.block k (by omega) (fun h1 => by have := ht k h1; omega)⟩

/-- A disk: what its sectors have, what waits, the budget, whether the power is off. -/
structure Dsk where
  has : List (List UInt8)
  waits : List (Int × List UInt8)
  bud : Int
  off : Bool
  ys : List Value
  cp : Nat
def secC (l : List (List UInt8)) : List Value := l.flatMap (fun s => s.map B8)
def isC (p : Int × List UInt8) : List Value := .int .i64 p.1 :: p.2.map B8
def waitC (l : List (Int × List UInt8)) : List Value := l.flatMap isC
/-- The disk at d in W: its sectors in the block hb, what waits in the slice V. -/
structure DkAt (W : World) (b0 d hb : Nat) (V : Value) (D : Dsk) : Prop where
  d0 : b0 ≤ d
  h0 : b0 ≤ hb
  cells : OwnE W d 61 [.slice (some ⟨hb, 0, none⟩) D.has.length D.cp, V, .int .i64 D.bud, .bool D.off]
  sect : OwnE W hb 64 (secC D.has ++ D.ys)
  wait : W.ownsRow b0 66 129 V D.waits.length (waitC D.waits)
  len : ∀ s ∈ D.has, s.length = 128
  wlen : ∀ p ∈ D.waits, p.2.length = 128 ∧ 0 ≤ p.1 ∧ p.1 < D.has.length
  nb : D.has.length ≤ 2048
  bd : -1 ≤ D.bud ∧ D.bud ≤ 9223372036854775807
/-- The blocks that are a disk's. -/
def Mine (d hb : Nat) (V : Value) (g : Nat) : Prop := g = d ∨ g = hb ∨ V.ownBlock = some g
theorem OwnE.type_ne {w : World} {g h : Nat} {T U : TypeId} {xs ys : List Value} (a : OwnE w g T xs) (b : OwnE w h U ys) (hTU : T ≠ U) : g ≠ h := by
  rintro rfl
  have := (show w.heap[g]? = _ from a).symm.trans b
  simp at this
  exact hTU this.2
theorem OwnE.row_ne {w : World} {g b0 n size : Nat} {T e : TypeId} {v : Value} {xs ys : List Value} (a : OwnE w g T xs) (h : w.ownsRow b0 e size v n ys) (hTe : T ≠ e) : v.ownBlock ≠ some g := by
  rcases h.2 with ⟨rfl, _⟩ | ⟨k, cap, cur, rfl, _, hk, _⟩
  · simp [Value.ownBlock]
  · intro e'
    obtain rfl : k = g := by simpa [Value.ownBlock] using e'
    have := (show w.heap[k]? = _ from a).symm.trans hk
    simp at this
    exact hTe this.2
theorem DkAt.dh {W : World} {b0 d hb : Nat} {V : Value} {D : Dsk} (h : DkAt W b0 d hb V D) : d ≠ hb := h.cells.type_ne h.sect (by decide)
theorem DkAt.dv {W : World} {b0 d hb : Nat} {V : Value} {D : Dsk} (h : DkAt W b0 d hb V D) : V.ownBlock ≠ some d := h.cells.row_ne h.wait (by decide)
theorem DkAt.hv {W : World} {b0 d hb : Nat} {V : Value} {D : Dsk} (h : DkAt W b0 d hb V D) : V.ownBlock ≠ some hb := h.sect.row_ne h.wait (by decide)
theorem row_far {w : World} {b0 n size b i : Nat} {e : TypeId} {v : Value} {xs : List Value} (h : w.ownsRow b0 e size v n xs) (hb : v.ownBlock ≠ some b) (u : Value) : (w.setCell ⟨b, i, none⟩ u).ownsRow b0 e size v n xs := by
  refine ⟨h.1, ?_⟩
  rcases h.2 with hq | ⟨k, cap, cur, rfl, h1, h2, h3⟩
  · exact .inl hq
  · refine .inr ⟨k, cap, cur, rfl, h1, ?_, h3⟩
    exact (heap_setCell_other w ⟨b, i, none⟩ k u (fun e => hb (by simp [Value.ownBlock, e]))).trans h2
/-- A cell of the disk's own block is written: the budget, or whether the power is off. -/
theorem DkAt.bud_set {W : World} {b0 d hb : Nat} {V : Value} {D : Dsk} (h : DkAt W b0 d hb V D) (k : Int) (hk : -1 ≤ k ∧ k ≤ 9223372036854775807) : DkAt (W.setCell ⟨d, 2, none⟩ (.int .i64 k)) b0 d hb V { D with bud := k } :=
  ⟨h.d0, h.h0, h.cells.set 2 _, h.sect.far h.dh.symm _, row_far h.wait h.dv _, h.len, h.wlen, h.nb, hk⟩
theorem DkAt.off_set {W : World} {b0 d hb : Nat} {V : Value} {D : Dsk} (h : DkAt W b0 d hb V D) (k : Bool) : DkAt (W.setCell ⟨d, 3, none⟩ (.bool k)) b0 d hb V { D with off := k } :=
  ⟨h.d0, h.h0, h.cells.set 3 _, h.sect.far h.dh.symm _, row_far h.wait h.dv _, h.len, h.wlen, h.nb, h.bd⟩
theorem DkAt.wait_nil {W : World} {b0 d hb : Nat} {V : Value} {D : Dsk} (h : DkAt W b0 d hb V D) : DkAt (W.setCell ⟨d, 1, none⟩ (.slice none 0 0)) b0 d hb (.slice none 0 0) { D with waits := [] } :=
  ⟨h.d0, h.h0, h.cells.set 1 _, h.sect.far h.dh.symm _, World.ownsRow_nil _ _ _ _, h.len, (fun p hp => by cases hp), h.nb, h.bd⟩
theorem DkAt.below {W W' : World} {b0 d hb : Nat} {V : Value} {D : Dsk} (h : DkAt W b0 d hb V D) (hb' : Below W.heap.size W W') : DkAt W' b0 d hb V D :=
  ⟨h.d0, h.h0, h.cells.below hb', h.sect.below hb', by
    refine ⟨h.wait.1, ?_⟩
    rcases h.wait.2 with hq | ⟨k, cap, cur, e, h1, h2, h3⟩
    · exact .inl hq
    · exact .inr ⟨k, cap, cur, e, h1, (hb'.block k (lt_of_heap h2)).trans h2, h3⟩, h.len, h.wlen, h.nb, h.bd⟩
theorem Mine.lt {W : World} {b0 d hb : Nat} {V : Value} {D : Dsk} (h : DkAt W b0 d hb V D) : ∀ g, Mine d hb V g → b0 ≤ g ∧ g < W.heap.size := by
  rintro g (rfl | rfl | hg)
  · exact ⟨h.d0, h.cells.lt⟩
  · exact ⟨h.h0, h.sect.lt⟩
  · refine ⟨own_base h.wait g hg, ?_⟩
    rcases h.wait.2 with ⟨e, _⟩ | ⟨k, cap, cur, e, _, h2, _⟩
    · rw [e] at hg; simp [Value.ownBlock] at hg
    · rw [e] at hg
      obtain rfl : k = g := by simpa [Value.ownBlock] using hg
      exact lt_of_heap h2

theorem is_any {W : World} {b0 d hb : Nat} {V : Value} {D : Dsk} (h : DkAt W b0 d hb V D) (i : Int) :
    Calls Try.prog 27 #[.pointer (some ⟨d, 0, none⟩), .int .i64 i] W fun e w' => e = .returned (.bool (decide (0 ≤ i ∧ i < D.has.length))) ∧ W = w' := by
  have x0 := h.cells.cell (j := 0) rfl
  obtain ⟨n, hn⟩ : ∃ n, D.has.length = n := ⟨_, rfl⟩
  rw [hn] at x0 ⊢
  clear h hn
  by_cases h0 : 0 ≤ i
  · have d0 : decide (0 ≤ i) = true := by simpa using h0
    by_cases h1 : i < n
    · have d1 : decide (i < (n : Int)) = true := by simpa using h1
      rw [decide_eq_true ⟨h0, h1⟩]
      clear h0 h1
      go_enter Try.func27, Try.ntmps27
      go_wp2
      go_ret
      exact ⟨rfl, rfl⟩
    · have d1 : decide (i < (n : Int)) = false := by simpa using h1
      rw [decide_eq_false (fun h => h1 h.2)]
      clear h0 h1
      go_enter Try.func27, Try.ntmps27
      go_wp2
      go_ret
      exact ⟨rfl, rfl⟩
  · have d0 : decide (0 ≤ i) = false := by simpa using h0
    rw [decide_eq_false (fun h => h0 h.1)]
    clear h0
    go_enter Try.func27, Try.ntmps27
    go_wp2
    go_ret
    exact ⟨rfl, rfl⟩
/-- One is spent; or the power is off then. -/
def spendD (D : Dsk) : Dsk := if D.off = true then D else if D.bud = 0 then { D with off := true } else if 0 < D.bud then { D with bud := D.bud - 1 } else D
def onD (D : Dsk) : Bool := !D.off && !decide (D.bud = 0)
end Go.Proofs.Ytkadehdbnkinlaa
