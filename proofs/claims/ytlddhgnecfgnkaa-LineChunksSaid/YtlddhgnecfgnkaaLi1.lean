/-
  sign. A part of the proof: see the head of the text that ends in 'Law'.
-/
import Derived.Test.YtlddhgnecfgnkaaShelf
import Derived.Test.YtlddhgnecfgnkaaLiPlain
import Derived.Test.YtlddhgnecfgnkaaProg
namespace Go.Proofs.Ytlddhgnecfgnkaa
open Go.RowKit
set_option linter.unusedVariables false
attribute [local go_sem] Oper.semAt_some

theorem sign_any (c : UInt8) (w : World) : Calls Try.prog 31 #[B8 c] w fun e w' => e = .returned (.bool (signB c)) ∧ w = w' := by
  unfold B8 signB
  have hlt := c.toNat_lt
  obtain ⟨n, hn⟩ : ∃ n, c.toNat = n := ⟨_, rfl⟩
  rw [hn] at hlt ⊢
  clear hn
  by_cases h1 : 32 < n
  · have d1 : decide ((32 : Int) < (n : Int)) = true := by simp; omega
    have d1' : decide (32 < n) = true := by simpa using h1
    by_cases h2 : n < 127
    · have d2 : decide ((n : Int) < 127) = true := by simp; omega
      have d2' : decide (n < 127) = true := by simpa using h2
      by_cases h3 : n = 40
      · subst h3
        go_enter Try.func31, Try.ntmps31
        go_wp2
        go_ret
        exact ⟨rfl, rfl⟩
      · have d3 : ((n : Int) != 40) = true := by rw [bne_iff_ne]; omega
        have d3' : (n != 40) = true := by simpa using h3
        by_cases h4 : n = 41
        · subst h4
          go_enter Try.func31, Try.ntmps31
          go_wp2
          go_ret
          exact ⟨rfl, rfl⟩
        · have d4 : ((n : Int) != 41) = true := by rw [bne_iff_ne]; omega
          have d4' : (n != 41) = true := by simpa using h4
          have d5 : ((n : Int) != 34) = (n != 34) := by
            rw [Bool.eq_iff_iff, bne_iff_ne, bne_iff_ne]; omega
          rw [d1', d2', d3', d4']
          clear h1 h2 h3 h4 d1' d2' d3' d4'
          go_enter Try.func31, Try.ntmps31
          go_wp2
          go_ret
          exact ⟨by simp, rfl⟩
    · have d2 : decide ((n : Int) < 127) = false := by simp; omega
      have d2' : decide (n < 127) = false := by simpa using h2
      rw [d1', d2']
      clear h1 h2 d1' d2'
      go_enter Try.func31, Try.ntmps31
      go_wp2
      go_ret
      exact ⟨rfl, rfl⟩
  · have d1 : decide ((32 : Int) < (n : Int)) = false := by simp; omega
    have d1' : decide (32 < n) = false := by simpa using h1
    rw [d1']
    clear h1 d1'
    go_enter Try.func31, Try.ntmps31
    go_wp2
    go_ret
    exact ⟨rfl, rfl⟩
theorem sign_q (c : UInt8) (b : Bool) (h : signB c = b) (w : World) : Calls Try.prog 31 #[.int .u8 (c.toNat : Int)] w fun e w' => e = .returned (.bool b) ∧ w' = w := by
  have := sign_any c w
  rw [h] at this
  exact this.mono fun e w' k => ⟨k.1, k.2.symm⟩
end Go.Proofs.Ytlddhgnecfgnkaa
