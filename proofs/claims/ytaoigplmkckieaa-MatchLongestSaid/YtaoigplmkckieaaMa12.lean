/-
  Best, as it is exported. A part of the proof: see the head of the text that ends in 'Law'.
-/
import Derived.Test.YtaoigplmkckieaaMa11
namespace Go.Proofs.Ytaoigplmkckieaa
open Go.RowKit
set_option linter.unusedVariables false

/-- The finder, made. -/
theorem Fnd.made (w : World) (A : Option Addr) (n c : Nat) (l : List UInt8) :
    Fnd w ((w.alloc (.map #[] 0)).alloc (.cells #[.slice A n c, .map (some w.heap.size), .int .i64 0] 47)) (w.heap.size + 1) w.heap.size A n c (fun _ => False) 0 0 l := by
  have h1 : Below w.heap.size w ((w.alloc (.map #[] 0)).alloc (.cells #[.slice A n c, .map (some w.heap.size), .int .i64 0] 47)) := ((Below.refl _ _).alloc (Nat.le_refl _) _).alloc (by simp) _
  have h2 := OwnC.new_ (w.alloc (.map #[] 0)) #[.slice A n c, .map (some w.heap.size), .int .i64 0] 47
  rw [World.size_alloc] at h2
  have h3 := Grp.made w (fun _ => False)
  refine ⟨h1, by omega, Nat.le_refl _, by omega, fun g hg => hg.elim, fun g hg => hg.elim, h2, ?_⟩
  rw [placesL_zero]
  exact h3.stay (Below.heap_alloc _ _ _ (by simp)) (fun g hg => hg.elim)
/-- Best's answer. -/
def bestOut (n : Nat) (l : List UInt8) (p : Int) : Nat × Nat × Nat := if 65536 < n then (0, 0, 5) else if p < 0 ∨ (n : Int) ≤ p then (0, 0, 4) else ((bestF l p.toNat).1, (bestF l p.toNat).2, 0)
set_option maxHeartbeats 1000000 in
theorem mBest_any (w : World) (n c : Nat) (A : Option Addr) (l : List UInt8) (ho : Oct w A n l) (hnc : n ≤ c) (hc : c ≤ maxLen) (p : Int) :
    Calls Try.prog 16 #[.slice A n c, .int .i64 p] w fun e w' => e = .returned (.tuple #[.int .i64 ((bestOut n l p).1 : Int), .int .i64 ((bestOut n l p).2.1 : Int), .int .i64 ((bestOut n l p).2.2 : Int)]) ∧ Below w.heap.size w w' := by
  have hcm : c ≤ 9223372036854775807 := by unfold maxLen at hc; omega
  by_cases h1 : 65536 < n
  · have d1 : decide ((65536 : Int) < n) = true := by simp; omega
    have d1' : decide (65536 < n) = true := by simp; omega
    have hb : bestOut n l p = (0, 0, 5) := by unfold bestOut; rw [if_pos h1]
    rw [hb]
    clear ho hb
    go_enter Try.func16, Try.ntmps16
    go_wp2
    go_ret3
    exact ⟨rfl, Below.refl _ _⟩
  · have d1 : decide ((65536 : Int) < n) = false := by simp; omega
    have d1' : decide (65536 < n) = false := by simp; omega
    by_cases h2 : p < 0
    · have d2 : decide (p < 0) = true := by simp; omega
      have hb : bestOut n l p = (0, 0, 4) := by unfold bestOut; rw [if_neg h1, if_pos (Or.inl h2)]
      rw [hb]
      clear ho hb
      go_enter Try.func16, Try.ntmps16
      go_wp2
      go_ret3
      exact ⟨rfl, Below.refl _ _⟩
    · have d2 : decide (p < 0) = false := by simp; omega
      by_cases h3 : (n : Int) ≤ p
      · have d3 : decide ((n : Int) ≤ p) = true := by simp; omega
        have hb : bestOut n l p = (0, 0, 4) := by unfold bestOut; rw [if_neg h1, if_pos (Or.inr h3)]
        rw [hb]
        clear ho hb
        go_enter Try.func16, Try.ntmps16
        go_wp2
        go_ret3
        exact ⟨rfl, Below.refl _ _⟩
      · have d3 : decide ((n : Int) ≤ p) = false := by simp; omega
        have hb : bestOut n l p = ((bestF l p.toNat).1, (bestF l p.toNat).2, 0) := by unfold bestOut; rw [if_neg h1, if_neg (by omega)]
        rw [hb]
        obtain ⟨q, rfl⟩ : ∃ q : Nat, p = q := ⟨p.toNat, by omega⟩
        have hmm := @run_makeMap Try.prog
        have HF := hid (Fnd.made w A n c l)
        have HO := hid ho
        rw [Int.toNat_natCast]
        clear ho hb
        go_enter Try.func16, Try.ntmps16
        go_wp2_with (go_at_call 18; refine (best_any HF.out HO.out hnc hc (by omega) q (by omega) (by omega)).mono ?_; rintro e w2 ⟨rfl, hK2⟩)
        go_ret3
        exact ⟨rfl, hK2.choose_spec.1.bel⟩
end Go.Proofs.Ytaoigplmkckieaa
