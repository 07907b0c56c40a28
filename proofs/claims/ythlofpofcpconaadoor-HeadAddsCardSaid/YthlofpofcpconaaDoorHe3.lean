/-
  Blank octets and empty lines. A part of the proof: see the head of the text that ends in 'Law'.
-/
import Derived.Test.YthlofpofcpconaaDoorHe1
namespace Go.Proofs.YthlofpofcpconaaDoor
open Go.RowKit Go.Shelf
set_option linter.unusedVariables false

theorem blank17_any (c : UInt8) (w : World) : Calls Tryd.prog 35 #[B8 c] w fun e w' => e = .returned (.bool (bl c)) ∧ w = w' := by
  unfold B8 bl
  obtain ⟨n, hn⟩ : ∃ n, c.toNat = n := ⟨_, rfl⟩
  rw [hn]
  clear hn
  by_cases h3 : n = 32
  · subst h3
    go_enter Tryd.func35, Tryd.ntmps35
    go_wp2
    go_ret
    exact ⟨rfl, rfl⟩
  · have d3 : ((n : Int) == 32) = false := by simpa using fun h : (n : Int) = 32 => h3 (by omega)
    have d3' : (n == 32) = false := by simpa using h3
    have d5 : ((n : Int) == 9) = (n == 9) := by rw [Bool.eq_iff_iff, beq_iff_eq, beq_iff_eq]; omega
    rw [d3']
    clear h3 d3'
    go_enter Tryd.func35, Tryd.ntmps35
    go_wp2
    go_ret
    exact ⟨rfl, rfl⟩
theorem rblank_any (c : UInt8) (w : World) : Calls Tryd.prog 38 #[B8 c] w fun e w' => e = .returned (.bool (bl c)) ∧ w = w' := by
  unfold B8 bl
  obtain ⟨n, hn⟩ : ∃ n, c.toNat = n := ⟨_, rfl⟩
  rw [hn]
  clear hn
  by_cases h3 : n = 32
  · subst h3
    go_enter Tryd.func38, Tryd.ntmps38
    go_wp2
    go_ret
    exact ⟨rfl, rfl⟩
  · have d3 : ((n : Int) == 32) = false := by simpa using fun h : (n : Int) = 32 => h3 (by omega)
    have d3' : (n == 32) = false := by simpa using h3
    have d5 : ((n : Int) == 9) = (n == 9) := by rw [Bool.eq_iff_iff, beq_iff_eq, beq_iff_eq]; omega
    rw [d3']
    clear h3 d3'
    go_enter Tryd.func38, Tryd.ntmps38
    go_wp2
    go_ret
    exact ⟨rfl, rfl⟩
theorem rempty_any (l : List UInt8) (w : World) : Calls Tryd.prog 19 #[.string (str l)] w fun e w' => e = .returned (.bool (emptyB l)) ∧ w = w' := by
  have q1 : (str l == (⟨#[10]⟩ : ByteArray)) = decide (l = [10]) := str_eqv l [10]
  have q2 : (str l == (⟨#[13, 10]⟩ : ByteArray)) = decide (l = [13, 10]) := str_eqv l [13, 10]
  have r1 : (l == [10]) = decide (l = [10]) := by rw [Bool.eq_iff_iff, beq_iff_eq, decide_eq_true_iff]
  have r2 : (l == [13, 10]) = decide (l = [13, 10]) := by rw [Bool.eq_iff_iff, beq_iff_eq, decide_eq_true_iff]
  unfold emptyB
  obtain ⟨a, ha⟩ : ∃ a, decide (l = [10]) = a := ⟨_, rfl⟩
  obtain ⟨b, hb⟩ : ∃ b, decide (l = [13, 10]) = b := ⟨_, rfl⟩
  rw [ha] at q1 r1 ⊢
  rw [hb] at q2 r2 ⊢
  clear ha hb
  cases a <;> cases b <;>
  · go_enter Tryd.func19, Tryd.ntmps19
    go_wp2
    go_ret
    exact ⟨rfl, rfl⟩
theorem empty_any (A : Option Addr) (n c : Nat) (l : List UInt8) (w : World) (h : Oct w A n l) : Calls Tryd.prog 34 #[.slice A n c] w fun e w' => e = .returned (.bool (emptyB l)) ∧ w = w' := by
  have q1 : (str l == (⟨#[10]⟩ : ByteArray)) = decide (l = [10]) := str_eqv l [10]
  have q2 : (str l == (⟨#[13, 10]⟩ : ByteArray)) = decide (l = [13, 10]) := str_eqv l [13, 10]
  have r1 : (l == [10]) = decide (l = [10]) := by rw [Bool.eq_iff_iff, beq_iff_eq, decide_eq_true_iff]
  have r2 : (l == [13, 10]) = decide (l = [13, 10]) := by rw [Bool.eq_iff_iff, beq_iff_eq, decide_eq_true_iff]
  have kc : (convert 22 9 (.slice A n c)).run Tryd.prog w = .ok (.string (str l)) w := run_string_oct c h Tryd.underlying22 Tryd.underlying5 Tryd.underlying9
  unfold emptyB
  obtain ⟨a, ha⟩ : ∃ a, decide (l = [10]) = a := ⟨_, rfl⟩
  obtain ⟨b, hb⟩ : ∃ b, decide (l = [13, 10]) = b := ⟨_, rfl⟩
  rw [ha] at q1 r1 ⊢
  rw [hb] at q2 r2 ⊢
  clear ha hb h
  cases a <;> cases b <;>
  · go_enter Tryd.func34, Tryd.ntmps34
    go_wp2
    go_ret
    exact ⟨rfl, rfl⟩
end Go.Proofs.YthlofpofcpconaaDoor
