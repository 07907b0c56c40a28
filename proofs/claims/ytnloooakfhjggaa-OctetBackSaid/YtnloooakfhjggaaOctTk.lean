/-
  The document's reader behind its pointer: its block, and the walks of its methods: each comes to what the plain state says. A part of the proof: see the head of the text that ends in 'Law'.
-/
import Derived.Test.YtnloooakfhjggaaOctPuts
namespace Go.Proofs.Ytnloooakfhjggaa
open Go.RowKit
set_option linter.unusedVariables false

/-- Block g is the document's reader over the octets l, in a state. -/
def Tk (w : World) (g : Nat) (l : List UInt8) (s : St) : Prop :=
  w.heap[g]? = some (.cells #[.string (str l), .int .i64 s.at_, .int .i64 s.e, .int .i64 s.wh] 53 (0, 0))
theorem Tk.at1 {w : World} {g : Nat} {l : List UInt8} {a e wh : Nat} (h : Tk w g l ⟨a, e, wh⟩) (x : Nat) : Tk (w.setCell ⟨g, 1, none⟩ (.int .i64 x)) g l ⟨x, e, wh⟩ := heap_set _ h
theorem Tk.e2 {w : World} {g : Nat} {l : List UInt8} {a e wh : Nat} (h : Tk w g l ⟨a, e, wh⟩) (x : Nat) : Tk (w.setCell ⟨g, 2, none⟩ (.int .i64 x)) g l ⟨a, x, wh⟩ := heap_set _ h
theorem Tk.wh3 {w : World} {g : Nat} {l : List UInt8} {a e wh : Nat} (h : Tk w g l ⟨a, e, wh⟩) (x : Nat) : Tk (w.setCell ⟨g, 3, none⟩ (.int .i64 x)) g l ⟨a, e, x⟩ := heap_set _ h
theorem Tk.drewN {w : World} {g : Nat} {l : List UInt8} {s : St} (h : Tk w g l s) (k : Nat) : Tk (w.drewN k) g l s := h
theorem Tk.below {w w' : World} {g : Nat} {l : List UInt8} {s : St} (h : Tk w g l s) (hb : Below w.heap.size w w') : Tk w' g l s := (hb.block g (lt_of_heap h)).trans h
theorem Tk.cells {w : World} {g : Nat} {l : List UInt8} {s : St} (h : Tk w g l s) :
    w.cell? ⟨g, 0, none⟩ = some (.string (str l)) ∧ w.cell? ⟨g, 1, none⟩ = some (.int .i64 s.at_) ∧ w.cell? ⟨g, 2, none⟩ = some (.int .i64 s.e) ∧ w.cell? ⟨g, 3, none⟩ = some (.int .i64 s.wh) ∧ ∀ i, w.frozen? ⟨g, i, none⟩ = false :=
  ⟨cell_of_row w g 0 _ _ _ h, cell_of_row w g 1 _ _ _ h, cell_of_row w g 2 _ _ _ h, cell_of_row w g 3 _ _ _ h, fun i => frozen_of_row w g i _ _ h⟩

set_option maxHeartbeats 400000 in
theorem wrong_any (w : World) (g : Nat) (l : List UInt8) (a wh x y : Nat) (hr : Tk w g l ⟨a, 0, wh⟩) :
    Calls Try.prog 29 #[.pointer (some ⟨g, 0, none⟩), .int .i64 x, .int .i64 y] w fun e w' => e = .returned (.tuple #[]) ∧ Tk w' g l ⟨y, x, y⟩ ∧ w.grownBy w' (some g) := by
  obtain ⟨k0, k1, k2, k3, kf⟩ := hr.cells
  have f1 := kf 1
  have f2 := kf 2
  have f3 := kf 3
  have HR := hid hr
  clear hr kf
  simp only at k1 k2 k3
  go_enter Try.func29, Try.ntmps29
  go_wp2
  go_end0
  exact ⟨rfl, ((HR.out.e2 x).wh3 y).at1 y, grown_trans (grown_trans (grown_set _) (grown_set _)) (grown_set _)⟩

set_option maxHeartbeats 400000 in
theorem tnum_any (w : World) (g : Nat) (l : List UInt8) (s : St) (wd : Int) (hr : Tk w g l s) (hn : l.length ≤ 4611686018427387904) :
    Calls Try.prog 21 #[.pointer (some ⟨g, 0, none⟩), .int .i64 wd] w fun e w' => e = .returned (.int .u64 (numS l s wd).1) ∧ Tk w' g l (numS l s wd).2 ∧ w.grownBy w' (some g) := by
  obtain ⟨k0, k1, k2, k3, kf⟩ := hr.cells
  have f1 := kf 1
  have HR := hid hr
  have HN := hid hn
  obtain ⟨a, e0, wh⟩ := s
  simp only at k1 k2 k3
  clear hr kf hn
  unfold numS
  simp only
  by_cases h0 : e0 = 0
  · subst h0
    rw [if_pos rfl]
    have hlt := (numC_err l a wd)
    generalize hr : numC l a wd = r at *
    obtain ⟨v, x⟩ := r
    by_cases hx : x = 0
    · subst hx
      rw [if_pos rfl]
      have hok := numC_ok (l := l) (a := a) (wd := wd) (by rw [hr])
      obtain ⟨k, rfl⟩ : ∃ k : Nat, wd = k := ⟨wd.toNat, by omega⟩
      have hadd : a + k ≤ 4611686018427387904 := by have := HN.out; omega
      go_enter Try.func21, Try.ntmps21
      go_wp2
      go_quiet ((go_at_call 15; exact Calls.quiet_of_same (num_same hr (refNum_all a k l _ HN.out))))
      go_wp2
      go_ret
      exact ⟨rfl, (HR.out.drewN _).at1 _, grown_q (grown_set _)⟩
    · rw [if_neg hx]
      have hx1 : (((x : Nat) : Int) == 0) = false := by simp; omega
      go_enter Try.func21, Try.ntmps21
      go_wp2
      go_quiet ((go_at_call 15; exact Calls.quiet_of_same (num_same hr (refNum_all a wd l _ HN.out))))
      go_wp2_with (go_at_call 29; refine (wrong_any _ g l a wh x a (HR.out.drewN _)).mono ?_; rintro e w1 ⟨rfl, hr1, hg1⟩)
      go_ret
      exact ⟨rfl, hr1, grown_q hg1⟩
  · rw [if_neg h0]
    have hx1 : (((e0 : Nat) : Int) == 0) = false := by simp; omega
    go_enter Try.func21, Try.ntmps21
    go_wp2
    go_ret
    exact ⟨rfl, HR.out, World.grownBy.refl _ _⟩

theorem traw_bad (w : World) (g : Nat) (l : List UInt8) (s : St) (k : Int) (hr : Tk w g l s) (h : s.e ≠ 0 ∨ k < 0 ∨ (l.length : Int) - s.at_ < k) (hn : l.length ≤ 2147483648) (han : s.at_ ≤ l.length) :
    Calls Try.prog 23 #[.pointer (some ⟨g, 0, none⟩), .int .i64 k] w fun e w' => e = .returned (.string (str [])) ∧ Tk w' g l (rawS l s k).2 ∧ w.grownBy w' (some g) := by
  obtain ⟨k0, k1, k2, k3, kf⟩ := hr.cells
  have HR := hid hr
  obtain ⟨a, e0, wh⟩ := s
  simp only at k1 k2 k3 h han
  have hsz := str_size l
  clear hr kf
  unfold rawS
  simp only
  by_cases h0 : e0 = 0
  · subst h0
    rw [if_pos rfl]
    by_cases h1 : k < 0
    · rw [if_pos h1]
      go_enter Try.func23, Try.ntmps23
      go_wp2_with (go_at_call 29; refine (wrong_any _ g l a wh 1 a HR.out).mono ?_; rintro e w1 ⟨rfl, hr1, hg1⟩)
      go_ret
      exact ⟨rfl, hr1, hg1⟩
    · rw [if_neg h1, if_pos (by omega)]
      have hd : decide ((l.length : Int) - a < k) = true := by simp; omega
      go_enter Try.func23, Try.ntmps23
      go_wp2
      go_quiet (fail)
      go_wp2_with (go_at_call 29; refine (wrong_any _ g l a wh 2 a (HR.out.drewN _)).mono ?_; rintro e w1 ⟨rfl, hr1, hg1⟩)
      go_ret
      exact ⟨rfl, hr1, grown_q hg1⟩
  · rw [if_neg h0]
    have hx1 : (((e0 : Nat) : Int) == 0) = false := by simp; omega
    go_enter Try.func23, Try.ntmps23
    go_wp2
    go_ret
    exact ⟨rfl, HR.out, World.grownBy.refl _ _⟩
end Go.Proofs.Ytnloooakfhjggaa
