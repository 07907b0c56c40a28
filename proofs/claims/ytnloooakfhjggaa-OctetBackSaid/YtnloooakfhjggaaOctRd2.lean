/-
  The reader's Read, Num, Raw, Text and End, walked: each comes to what the plain state says. A part of the proof: see the head of the text that ends in 'Law'.
-/
import Derived.Test.YtnloooakfhjggaaOctSt
namespace Go.Proofs.Ytnloooakfhjggaa
open Go.RowKit
set_option linter.unusedVariables false

/-- A reader in a state. -/
abbrev RdS (w : World) (g : Nat) (A : Option Addr) (n c : Nat) (l : List UInt8) (s : St) : Prop := Rd w g A n c l s.at_ s.e s.wh

theorem num_same {P : Program} {f : FuncId} {args : Array Value} {w : World} {r : Nat × Nat} {v x : Nat} (hr : r = (v, x)) (h : Calls P f args w fun e w' => e = .returned (.tuple #[.int .u64 r.1, .int .i64 r.2]) ∧ w = w') :
    Calls P f args w fun e w' => e = .returned (.tuple #[.int .u64 v, .int .i64 x]) ∧ w' = w := by
  subst hr
  exact h.mono fun _ _ ⟨h1, h2⟩ => ⟨h1, h2.symm⟩

theorem grown_q {w w' : World} {n : Nat} {row : Option Nat} (h : (w.drewN n).grownBy w' row) : w.grownBy w' row := ⟨h.os, h.tape, h.output, h.size, h.block⟩

set_option maxHeartbeats 400000 in
theorem rnum_any (w : World) (g : Nat) (A : Option Addr) (n c : Nat) (l : List UInt8) (s : St) (wd : Int) (hr : RdS w g A n c l s) (hn : n ≤ 4611686018427387904) :
    Calls Try.prog 18 #[.pointer (some ⟨g, 0, none⟩), .int .i64 wd] w fun e w' => e = .returned (.int .u64 (numS l s wd).1) ∧ RdS w' g A n c l (numS l s wd).2 ∧ w.grownBy w' (some g) := by
  obtain ⟨k0, k1, k2, k3, kf⟩ := hr.cells
  have f1 := kf 1
  have HR := hid hr
  have HN := hid hn
  obtain ⟨a, e0, wh⟩ := s
  simp only [RdS] at *
  clear hr kf hn
  unfold numS
  by_cases h0 : e0 = 0
  · subst h0
    rw [if_pos rfl]
    have hlt := (numC_err l a wd)
    generalize hr : numC l a wd = r at *
    obtain ⟨v, x⟩ := r
    by_cases hx : x = 0
    · subst hx
      rw [if_pos rfl]
      have hok := numC_ok (l := l) (a := a) (wd := wd) (by rw [hr])
      have hl := HR.out.2.1.len
      obtain ⟨k, rfl⟩ : ∃ k : Nat, wd = k := ⟨wd.toNat, by omega⟩
      have hadd : a + k ≤ 4611686018427387904 := by have := HN.out; omega
      go_enter Try.func18, Try.ntmps18
      go_wp2
      go_quiet ((go_at_call 14; exact Calls.quiet_of_same (num_same hr (num_all A n c a k l _ (HR.out.drewN _).2.1 HN.out))))
      go_wp2
      go_ret
      exact ⟨rfl, (HR.out.drewN _).at1 _, grown_q (grown_set _)⟩
    · rw [if_neg hx]
      have hx1 : (((x : Nat) : Int) == 0) = false := by simp; omega
      go_enter Try.func18, Try.ntmps18
      go_wp2
      go_quiet ((go_at_call 14; exact Calls.quiet_of_same (num_same hr (num_all A n c a wd l _ (HR.out.drewN _).2.1 HN.out))))
      go_wp2_with (go_at_call 28; refine (fail_any _ g A n c l a wh x a (HR.out.drewN _)).mono ?_; rintro e w1 ⟨rfl, hr1, hg1⟩)
      go_ret
      exact ⟨rfl, hr1, grown_q hg1⟩
  · rw [if_neg h0]
    have hx1 : (((e0 : Nat) : Int) == 0) = false := by simp; omega
    go_enter Try.func18, Try.ntmps18
    go_wp2
    go_ret
    exact ⟨rfl, HR.out, World.grownBy.refl _ _⟩
end Go.Proofs.Ytnloooakfhjggaa
