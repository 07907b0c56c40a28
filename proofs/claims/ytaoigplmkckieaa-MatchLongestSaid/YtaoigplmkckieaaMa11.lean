/-
  The best match, as the document looks for it. A part of the proof: see the head of the text that ends in 'Law'.
-/
import Derived.Test.YtaoigplmkckieaaMa10
namespace Go.Proofs.Ytaoigplmkckieaa
open Go.RowKit
set_option linter.unusedVariables false

set_option maxHeartbeats 4000000 in
theorem refBest_any (w : World) (n c : Nat) (A : Option Addr) (l : List UInt8) (ho : Oct w A n l) (hn : n ≤ 65536) (p : Nat) (hp : p < n) :
    Calls Try.prog 17 #[.slice A n c, .int .i64 (p : Int)] w fun e w' => e = .returned (.tuple #[.int .i64 ((bestF l p).1 : Int), .int .i64 ((bestF l p).2 : Int)]) ∧ Below w.heap.size w w' := by
  have hl := ho.1
  obtain ⟨b, off, rfl, hc⟩ := ho.at_ (by omega)
  have HC := hid hc
  clear ho hc
  go_enter Try.func17, Try.ntmps17
  go_wp2
  go_loopw [6, 7, 8] (fun m k dd wr => ∃ s1 s2 d : Nat, m = .int .i64 (s1 : Int) ∧ k = .int .i64 (s2 : Int) ∧ dd = .int .i64 (d : Int) ∧ 1 ≤ d ∧ d ≤ min p 32768 + 1 ∧ Hid (ROk l p (s1, s2) d) ∧ Hid (Below w.heap.size w wr)) (fun m k dd wr => 65538 - (intOf dd).toNat)
  case atStart => exact ⟨0, 0, 1, rfl, rfl, rfl, by omega, by omega, hid (ROk.start l p), hid (Below.refl _ _)⟩
  case round =>
    obtain ⟨s1, s2, d, rfl, rfl, rfl, hd1, hd2, hR, hB⟩ := hrel
    by_cases hdp : d ≤ p ∧ d ≤ 32768
    · have d1 : decide ((d : Int) ≤ p) = true := by simp; omega
      have d1' : decide (d ≤ p) = true := by simp; omega
      have d2 : decide ((d : Int) ≤ 32768) = true := by simp; omega
      have d2' : decide (d ≤ 32768) = true := by simp; omega
      have HS0 := hid (hR.out.step hd1)
      go_wp2
      go_loopw [9] (fun v wz => ∃ k : Nat, v = .int .i64 (k : Int) ∧ k ≤ 258 ∧ Hid (AlikeTo l (p - d) p k) ∧ Hid (Below w.heap.size w wz)) (fun v wz => 258 - (intOf v).toNat)
      case atStart => exact ⟨0, rfl, by omega, hid (fun q hq => by omega), hB⟩
      case round =>
        obtain ⟨k, rfl, hk, hA, hB2⟩ := hrel
        by_cases h2 : k < 258
        · have e2 : decide ((k : Int) < 258) = true := by simp; omega
          by_cases h1 : p + k < n
          · have e1 : decide ((p : Int) + k < n) = true := by simp; omega
            have e1' : decide (p + k < n) = true := by simp; omega
            have p0 := cells_keep hB2.out (HC.out (p + k) (by omega))
            have p1 := cells_keep hB2.out (HC.out (p - d + k) (by omega))
            obtain ⟨x, hx⟩ : ∃ x, l[p + k]'(by omega) = x := ⟨_, rfl⟩
            obtain ⟨y, hy⟩ : ∃ y, l[p - d + k]'(by omega) = y := ⟨_, rfl⟩
            rw [hx] at p0
            rw [hy] at p1
            have HX := hid (show l[p + k]? = some x by rw [List.getElem?_eq_getElem (by omega), hx])
            have HY := hid (show l[p - d + k]? = some y by rw [List.getElem?_eq_getElem (by omega), hy])
            have f0 : (0 : Int) ≤ (p : Int) + k := by omega
            have f1 : (p : Int) + k < n := by omega
            have f2 : IntKind.i64.wrap ((p : Int) + k - d) = ((p - d + k : Nat) : Int) := by rw [IntKind.wrap_i64]; omega
            have f3 : ((p - d + k : Nat) : Int) < n := by omega
            have f3' : p - d + k < n := by omega
            have f4 : ((p : Int) + k).toNat = p + k := by omega
            have f5 : (0 : Int) ≤ ((p - d + k : Nat) : Int) := by omega
            have f6 : (((p - d + k : Nat) : Int)).toNat = p - d + k := by omega
            clear hx hy
            by_cases h3 : x = y
            · have d3 : ((x.toNat : Int) == y.toNat) = true := by rw [h3]; simp
              have HXY := hid h3
              clear h3
              go_upto_region 6 with fail
              go_quiet (fail)
              go_wp2
              go_roundw
              case rel => exact ⟨k + 1, by go_num, by omega, hid (fun q hq => by
                by_cases hqk : q < k
                · exact hA.out q hqk
                · obtain rfl : q = k := by omega
                  exact ⟨by omega, by rw [HX.out, HY.out, HXY.out]⟩), hid (bq hB2.out _)⟩
              case measure => simp [intOf]; omega
            · have d3 : ((x.toNat : Int) == y.toNat) = false := by simp; intro h; exact h3 (UInt8.toNat_inj.1 (by omega))
              have HLN := hid (lenL_is hA.out hk (Or.inr (fun h => h3 (by rw [HX.out, HY.out] at h; exact (Option.some.inj h.2).symm))))
              clear h3
              go_upto_region 6 with fail
              go_quiet (fail)
              obtain ⟨m, hm⟩ : ∃ m, lenL l (p - d) p = m := ⟨_, rfl⟩
              have hS := HS0.out
              rw [hm] at hS
              obtain rfl : k = m := by rw [← hm]; exact HLN.out.symm
              have hbn := hid (bq hB2.out nq)
              clear hm
              by_cases h6 : s1 < k
              · have d6 : decide ((s1 : Int) < (k : Int)) = true := by simp; omega
                have d6' : decide (s1 < k) = true := by simp; omega
                rw [if_pos h6] at hS
                have HS := hid hS
                clear hS
                go_wp2
                go_roundw
                case rel => exact ⟨k, d, d + 1, rfl, rfl, by go_num, by omega, by omega, HS, hbn⟩
                case measure => simp [intOf]; omega
              · have d6 : decide ((s1 : Int) < (k : Int)) = false := by simp; omega
                have d6' : decide (s1 < k) = false := by simp; omega
                rw [if_neg h6] at hS
                have HS := hid hS
                clear hS
                go_wp2
                go_roundw
                case rel => exact ⟨s1, s2, d + 1, rfl, rfl, by go_num, by omega, by omega, HS, hbn⟩
                case measure => simp [intOf]; omega
          · have e1 : decide ((p : Int) + k < n) = false := by simp; omega
            have e1' : decide (p + k < n) = false := by simp; omega
            have HLN := hid (lenL_is hA.out hk (Or.inr (fun h => by omega)))
            go_upto_region 6 with fail
            go_quiet (fail)
            obtain ⟨m, hm⟩ : ∃ m, lenL l (p - d) p = m := ⟨_, rfl⟩
            have hS := HS0.out
            rw [hm] at hS
            obtain rfl : k = m := by rw [← hm]; exact HLN.out.symm
            have hbn := hid (bq hB2.out nq)
            clear hm
            by_cases h6 : s1 < k
            · have d6 : decide ((s1 : Int) < (k : Int)) = true := by simp; omega
              have d6' : decide (s1 < k) = true := by simp; omega
              rw [if_pos h6] at hS
              have HS := hid hS
              clear hS
              go_wp2
              go_roundw
              case rel => exact ⟨k, d, d + 1, rfl, rfl, by go_num, by omega, by omega, HS, hbn⟩
              case measure => simp [intOf]; omega
            · have d6 : decide ((s1 : Int) < (k : Int)) = false := by simp; omega
              have d6' : decide (s1 < k) = false := by simp; omega
              rw [if_neg h6] at hS
              have HS := hid hS
              clear hS
              go_wp2
              go_roundw
              case rel => exact ⟨s1, s2, d + 1, rfl, rfl, by go_num, by omega, by omega, HS, hbn⟩
              case measure => simp [intOf]; omega
        · have e2 : decide ((k : Int) < 258) = false := by simp; omega
          have HLN := hid (lenL_is hA.out hk (Or.inl (by omega)))
          go_upto_region 6 with fail
          go_quiet (fail)
          obtain ⟨m, hm⟩ : ∃ m, lenL l (p - d) p = m := ⟨_, rfl⟩
          have hS := HS0.out
          rw [hm] at hS
          obtain rfl : k = m := by rw [← hm]; exact HLN.out.symm
          have hbn := hid (bq hB2.out nq)
          clear hm
          by_cases h6 : s1 < k
          · have d6 : decide ((s1 : Int) < (k : Int)) = true := by simp; omega
            have d6' : decide (s1 < k) = true := by simp; omega
            rw [if_pos h6] at hS
            have HS := hid hS
            clear hS
            go_wp2
            go_roundw
            case rel => exact ⟨k, d, d + 1, rfl, rfl, by go_num, by omega, by omega, HS, hbn⟩
            case measure => simp [intOf]; omega
          · have d6 : decide ((s1 : Int) < (k : Int)) = false := by simp; omega
            have d6' : decide (s1 < k) = false := by simp; omega
            rw [if_neg h6] at hS
            have HS := hid hS
            clear hS
            go_wp2
            go_roundw
            case rel => exact ⟨s1, s2, d + 1, rfl, rfl, by go_num, by omega, by omega, HS, hbn⟩
            case measure => simp [intOf]; omega
    · have hdone := hR.out.done (by omega)
      have HD := hid hdone
      by_cases hd3 : d ≤ p
      · have d1 : decide ((d : Int) ≤ p) = true := by simp; omega
        have d1' : decide (d ≤ p) = true := by simp; omega
        have d2 : decide ((d : Int) ≤ 32768) = false := by simp; omega
        have d2' : decide (d ≤ 32768) = false := by simp; omega
        clear hdone
        by_cases h3 : s1 < 3
        · have d3 : decide ((s1 : Int) < 3) = true := by simp; omega
          go_wp2
          go_ret2
          refine ⟨?_, hB.out⟩
          rw [← HD.out, if_pos h3]
          rfl
        · have d3 : decide ((s1 : Int) < 3) = false := by simp; omega
          go_wp2
          go_ret2
          refine ⟨?_, hB.out⟩
          rw [← HD.out, if_neg h3]
          rfl
      · have d1 : decide ((d : Int) ≤ p) = false := by simp; omega
        have d1' : decide (d ≤ p) = false := by simp; omega
        clear hdone
        by_cases h3 : s1 < 3
        · have d3 : decide ((s1 : Int) < 3) = true := by simp; omega
          go_wp2
          go_ret2
          refine ⟨?_, hB.out⟩
          rw [← HD.out, if_pos h3]
          rfl
        · have d3 : decide ((s1 : Int) < 3) = false := by simp; omega
          go_wp2
          go_ret2
          refine ⟨?_, hB.out⟩
          rw [← HD.out, if_neg h3]
          rfl
end Go.Proofs.Ytaoigplmkckieaa
