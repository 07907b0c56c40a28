/-
  AddrSays: the walk. A part of the proof: see the head of the text that ends in 'Law'.
-/
import Derived.Test.YtdanhdiinkgjnaaDoorAd18
namespace Go.Proofs.YtdanhdiinkgjnaaDoor
open Go.RowKit
set_option linter.unusedVariables false
attribute [local go_sem] Oper.semAt_some

set_option maxRecDepth 100000 in
set_option maxHeartbeats 4000000 in
theorem walkAddrSays (l0 : List UInt8) (w : World) (hs0 : l0.length ≤ maxLen) : Calls Tryd.prog 4 #[.string (str l0)] w fun e w' => e = .returned (.bool true) ∧ Below w.heap.size w w' := by
  clear hs0
  obtain ⟨l, hl⟩ : ∃ l, fewL l0 = l := ⟨_, rfl⟩
  have hn := fewL_len l0
  rw [hl] at hn
  have HF := hid (few_any l0 w)
  rw [hl] at HF
  have HP := hid (fun X => pieces_any l l.length rfl X (by omega))
  have HR := hid (fun X => rpieces_any l l.length rfl X (by omega))
  have HS := hid (fun X => mSays_any l l.length rfl X (by omega))
  have HG := hid (fun X => signs_any l l.length rfl X (by omega))
  have HY := hid (fun (A : Option Addr) (n cp : Nat) (X : World) (h1 : (signsL l).length = n) (h2 : Row X A ((signsL l).flatMap sgC)) (h3 : n ≤ 100000) => say_any (signsL l) A n cp h1 X h2 h3)
  rw [say_signs] at HY
  obtain ⟨y, hy⟩ : ∃ y, saysL l = y := ⟨_, rfl⟩
  rw [hy] at HS HY
  obtain ⟨ps, hps⟩ : ∃ ps, piecesL l = ps := ⟨_, rfl⟩
  rw [hps] at HP HR
  have hle : l.length ≤ 400 := hn
  have HLL := hid hle
  have hyy : (str y == str y) = true := str_self y
  clear hl hps hn hy
  go_enter Tryd.func4, Tryd.ntmps4
  go_upto_region 3 with (first
    | (go_at_call 7; refine HF.out.mono ?_; rintro e w1 ⟨rfl, rfl⟩)
    | (go_at_call 12; refine (HP.out _).mono ?_; rintro e w2 ⟨A1, m1, c1, rfl, h1, h2, h3, h4⟩; have HL1 := hid h1; have R1 := hid (Row.of_own h2); have B := hid h3; have HM := hid h4; clear h1 h2 h3 h4)
    | (go_at_call 13; refine (HR.out _).mono ?_; rintro e w3 ⟨A2, m2, c2, rfl, h1, h2, h3, h4⟩; have e2 := h1.symm.trans HL1.out; subst e2; have R1 := hid (R1.out.below h3); have R2 := hid (Row.of_own h2); have B := hid (next B.out h3); clear h1 h2 h3 h4))
  clear HF HP HR
  have hm : m2 ≤ 401 := by have := HM.out; omega
  go_wp2_with fail
  go_loopw [5] (fun i wr => ∃ k : Nat, k ≤ m2 ∧ i = .int .i64 (k : Int) ∧ Hid (Below w3.heap.size w3 wr)) (fun i wr => m2 - (intOf i).toNat)
  case atStart => exact ⟨0, by omega, rfl, hid (Below.refl _ _)⟩
  case round =>
    obtain ⟨k, hk, rfl, hI⟩ := hrel
    by_cases hlt : k < m2
    · have d1 : decide ((k : Int) < (m2 : Int)) = true := by simp; omega
      have d1' : decide (k < m2) = true := by simpa using hlt
      have hkl : k < ps.length := by rw [HL1.out]; exact hlt
      obtain ⟨b, off, rfl, hc⟩ := row_at R1.out hkl
      obtain ⟨b', off', rfl, hc'⟩ := row_at R2.out hkl
      obtain ⟨x, hx⟩ : ∃ x, ps[k]'hkl = x := ⟨_, rfl⟩
      have p0 := cells_keep hI.out (hc k hkl)
      have q0 := cells_keep hI.out (hc' k hkl)
      rw [hx] at p0 q0
      unfold SV at p0 q0
      have i0 : (0 : Int) ≤ (k : Int) := by omega
      have i1 : (k : Int) < (m2 : Int) := by omega
      have i2 : (k : Int).toNat = k := by omega
      have hxx : (str x != str x) = false := by rw [bne, str_self]; rfl
      have hxy : (str x == str x) = true := str_self x
      clear hc hc' hx hkl HS HG HY
      go_upto_region 8 with fail
      go_quiet (fail)
      go_wp2
      go_roundw
      case rel => exact ⟨k + 1, by omega, by go_num, hid (bq hI.out _)⟩
      case measure => simp [intOf]; omega
    · have hkn : k = m2 := by omega
      subst hkn
      have d1 : decide ((k : Int) < (k : Int)) = false := by simp
      have d1' : decide (k < k) = false := by simp
      have B2 := hid (next B.out hI.out)
      clear hI B R1 R2
      go_wp2_with (first
        | (go_at_call 14; refine (HS.out _).mono ?_; rintro e w4 ⟨rfl, b4⟩; have B2 := hid (next B2.out b4); clear b4)
        | (go_at_call 16; refine (HG.out _).mono ?_; rintro e w5 ⟨AS, ns, cs, rfl, h1, h2, h3, h4⟩; have HLS := hid h1; have HRS := hid (Row.of_own h2); have B2 := hid (next B2.out h3); have HNS := hid h4; clear h1 h2 h3 h4)
        | (go_at_call 15; refine (HY.out AS ns cs _ HLS.out HRS.out (by have := HNS.out; have := HLL.out; omega)).mono ?_; rintro e w6 ⟨rfl, b6⟩; have B2 := hid (next B2.out b6); clear b6)
        | (go_at_call 11; refine (awake_any _).mono ?_; rintro e w7 ⟨rfl, b7⟩; have B2 := hid (next B2.out b7); clear b7))
      go_ret
      exact ⟨rfl, B2.out⟩
end Go.Proofs.YtdanhdiinkgjnaaDoor
