/-
  The same addresses. A part of the proof: see the head of the text that ends in 'Law'.
-/
import Derived.Test.YtdanhdiinkgjnaaDoorAd16
namespace Go.Proofs.YtdanhdiinkgjnaaDoor
open Go.RowKit
set_option linter.unusedVariables false
attribute [local go_sem] Oper.semAt_some

theorem adC_len (x : Ad) : (adC x).length = 3 := rfl
theorem ad_at {w : World} {A : Option Addr} {l : List Ad} (h : Row w A (l.flatMap adC)) {k : Nat} (hk : k < l.length) : ∃ b off, A = some ⟨b, off, none⟩ ∧ ∀ (j : Nat) (hj : j < l.length), w.cell? ⟨b, off + j * 3, none⟩ = some (SV (l[j]'hj).name) ∧ w.cell? ⟨b, off + j * 3 + 1, none⟩ = some (SV (l[j]'hj).box) ∧ w.cell? ⟨b, off + j * 3 + 2, none⟩ = some (SV (l[j]'hj).host) := by
  obtain ⟨b, off, hA, hc⟩ := h (flatMap_ne adC 3 (by decide) adC_len l (by omega))
  refine ⟨b, off, hA, fun j hj => ?_⟩
  have g := fun i hi => flatMap_get adC 3 adC_len l j i hj hi
  exact ⟨hc (j * 3 + 0) _ ((g 0 (by omega)).trans rfl), hc (j * 3 + 1) _ ((g 1 (by omega)).trans rfl), hc (j * 3 + 2) _ ((g 2 (by omega)).trans rfl)⟩
set_option maxRecDepth 100000 in
set_option maxHeartbeats 2000000 in
theorem same_eq (A B : Option Addr) (n c d : Nat) (l : List Ad) (w : World) (hn : l.length = n) (ha : Row w A (l.flatMap adC)) (hb : Row w B (l.flatMap adC)) (hl : n ≤ 100000) :
    Calls Tryd.prog 8 #[.slice A n c, .slice B n d] w fun e w' => e = .returned (.bool true) ∧ Below w.heap.size w w' := by
  have HA := hid ha
  have HB := hid hb
  have HL := hid hn
  have B0 := hid (Below.refl w.heap.size w)
  clear ha hb hn
  go_enter Tryd.func8, Tryd.ntmps8
  go_wp2_with fail
  go_loopw [5] (fun i wr => ∃ k : Nat, k ≤ n ∧ i = .int .i64 (k : Int) ∧ Hid (Below w.heap.size w wr)) (fun i wr => n - (intOf i).toNat)
  case atStart => exact ⟨0, by omega, rfl, B0⟩
  case round =>
    clear B0
    obtain ⟨k, hk, rfl, hI⟩ := hrel
    by_cases hlt : k < n
    · have d1 : decide ((k : Int) < (n : Int)) = true := by simp; omega
      have d1' : decide (k < n) = true := by simpa using hlt
      have hkl : k < l.length := by rw [HL.out]; exact hlt
      obtain ⟨b, off, rfl, hc⟩ := ad_at HA.out hkl
      obtain ⟨b', off', rfl, hc'⟩ := ad_at HB.out hkl
      obtain ⟨x, hx⟩ : ∃ x, l[k]'hkl = x := ⟨_, rfl⟩
      have p0 := cells_keep hI.out (hc k hkl).1
      have p1 := cells_keep hI.out (hc k hkl).2.1
      have p2 := cells_keep hI.out (hc k hkl).2.2
      have q0 := cells_keep hI.out (hc' k hkl).1
      have q1 := cells_keep hI.out (hc' k hkl).2.1
      have q2 := cells_keep hI.out (hc' k hkl).2.2
      rw [hx] at p0 p1 p2 q0 q1 q2
      unfold SV at p0 p1 p2 q0 q1 q2
      have i0 : (0 : Int) ≤ (k : Int) := by omega
      have i1 : (k : Int) < (n : Int) := by omega
      have i2 : (k : Int).toNat = k := by omega
      have hq := fun W => run_equal_ad W x x
      have hd : decide (x = x) = true := by simp
      rw [hd] at hq
      have hg : Tryd.prog.eqGuardType Tryd.prog.depth 35 = false := by kernel_rfl
      clear hc hc' hx hkl hd
      go_upto_region 6 with fail
      go_quiet (fail)
      go_wp2
      go_roundw
      case rel => exact ⟨k + 1, by omega, by go_num, hid (bq hI.out _)⟩
      case measure => simp [intOf]; omega
    · have d1 : decide ((k : Int) < (n : Int)) = false := by simp; omega
      have d1' : decide (k < n) = false := by simpa using hlt
      go_wp2
      go_ret
      exact ⟨rfl, hI.out⟩
end Go.Proofs.YtdanhdiinkgjnaaDoor
