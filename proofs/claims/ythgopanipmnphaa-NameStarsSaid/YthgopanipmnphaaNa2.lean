/-
  The document's Is. A part of the proof: see the head of the text that ends in 'Law'.
-/
import Derived.Test.YthgopanipmnphaaNaPlain
namespace Go.Proofs.Ythgopanipmnphaa
open Go.RowKit Go.Shelf
set_option linter.unusedVariables false

set_option maxHeartbeats 1000000 in
theorem refIs_any (l : List UInt8) (w : World) (hl : l.length ≤ 100000) :
    Calls Try.prog 18 #[.string (str l)] w fun e w' => e = .returned (.bool (isL l)) ∧ Below w.heap.size w w' := by
  have hsz : (str l).size ≤ 100000 := hl
  have HL : Hid ((str l).size = l.length) := hid rfl
  clear hl
  go_enter Try.func18, Try.ntmps18
  go_wp2
  go_loopw [3] (fun i wr => ∃ k : Nat, k ≤ (str l).size ∧ i = .int .i64 k ∧ Hid (GoodTo l k ∧ Below w.heap.size w wr)) (fun i wr => (str l).size - (intOf i).toNat)
  case atStart => exact ⟨0, by omega, rfl, hid ⟨GoodTo.zero l, Below.refl _ _⟩⟩
  case round =>
    obtain ⟨k, hk, rfl, hI⟩ := hrel
    by_cases hlt : k < (str l).size
    · have hd : decide (k < (str l).size) = true := by simpa using hlt
      obtain ⟨x, hx⟩ : ∃ x, (str l)[k] = x := ⟨_, rfl⟩
      have hgx : Hid (l.getD k 0 = x) := hid (by rw [List.getD_eq_getElem?_getD, List.getElem?_eq_getElem (by rwa [HL.out] at hlt), ← hx, str_get]; rfl)
      have hxl := x.toNat_lt
      go_upto_region 5 with fail
      go_cut [51] (fun t wx => t = .bool (!okN x.toNat) ∧ wr = wx)
      case first =>
        generalize x.toNat = n at *
        obtain ⟨b1, h1⟩ : ∃ b, decide ((n : Int) < 33) = b := ⟨_, rfl⟩
        obtain ⟨b2, h2⟩ : ∃ b, decide ((126 : Int) < n) = b := ⟨_, rfl⟩
        obtain ⟨b40, h40⟩ : ∃ b, ((n : Int) == 40) = b := ⟨_, rfl⟩
        obtain ⟨b41, h41⟩ : ∃ b, ((n : Int) == 41) = b := ⟨_, rfl⟩
        obtain ⟨b123, h123⟩ : ∃ b, ((n : Int) == 123) = b := ⟨_, rfl⟩
        obtain ⟨b125, h125⟩ : ∃ b, ((n : Int) == 125) = b := ⟨_, rfl⟩
        obtain ⟨b37, h37⟩ : ∃ b, ((n : Int) == 37) = b := ⟨_, rfl⟩
        obtain ⟨b42, h42⟩ : ∃ b, ((n : Int) == 42) = b := ⟨_, rfl⟩
        obtain ⟨b34, h34⟩ : ∃ b, ((n : Int) == 34) = b := ⟨_, rfl⟩
        obtain ⟨b92, h92⟩ : ∃ b, ((n : Int) == 92) = b := ⟨_, rfl⟩
        go_wp2_with fail
        all_goals (go_meet; exact ⟨by rw [okN_b]; simp only [h1, h2, h40, h41, h123, h125, h37, h42, h34, h92]; simp [*], rfl⟩)
      case rest =>
      obtain ⟨rfl, rfl⟩ := hcut
      cases hok : okN x.toNat with
      | false =>
        have hbad : isL l = false := isL_bad (by rwa [HL.out] at hlt) (.inl (by rw [hgx.out]; exact hok))
        have HB := hid hbad
        clear hbad hok
        rw [show (!false) = true from rfl]
        go_wp2
        go_ret
        exact ⟨by rw [HB.out]; rfl, hI.out.2⟩
      | true =>
        rw [show (!true) = false from rfl]
        have HOK := hid hok
        clear hok
        go_upto_region 7 with fail
        go_cut [71] (fun t wx => t = .bool (badAt l k) ∧ wr = wx)
        case first =>
          have hbe := badAt_b l k
          rw [hgx.out, ← HL.out] at hbe
          obtain ⟨b1, h1⟩ : ∃ b, ((x.toNat : Int) == 47) = b := ⟨_, rfl⟩
          obtain ⟨b2, h2⟩ : ∃ b, ((k : Int) == 0) = b := ⟨_, rfl⟩
          obtain ⟨b3, h3⟩ : ∃ b, ((k : Int) == ((str l).size : Int) - 1) = b := ⟨_, rfl⟩
          rw [h1, h2, h3] at hbe
          rcases Nat.eq_zero_or_pos k with hk0 | hk0
          · have e2 : b2 = true := by rw [← h2, hk0]; rfl
            subst e2
            rw [Bool.true_or, Bool.true_or, Bool.and_true] at hbe
            have HBE := hid hbe
            clear hbe hk0
            go_wp2_with fail
            all_goals (go_meet; exact ⟨by rw [HBE.out]; simp [*], rfl⟩)
          · have e2 : b2 = false := by rw [← h2]; simp; omega
            subst e2
            obtain ⟨i, hi⟩ : ∃ i, k - 1 = i := ⟨_, rfl⟩
            have hi5 : IntKind.i64.wrap ((k : Int) - 1) = (i : Int) := by rw [IntKind.wrap_i64]; omega
            have hi1 : i < (str l).size := by omega
            obtain ⟨y, hy⟩ : ∃ y, (str l)[i] = y := ⟨_, rfl⟩
            have hgy : l.getD (k - 1) 0 = y := by rw [hi, List.getD_eq_getElem?_getD, List.getElem?_eq_getElem (by rwa [HL.out] at hi1), ← hy, str_get]; rfl
            obtain ⟨b4, h4⟩ : ∃ b, ((y.toNat : Int) == 47) = b := ⟨_, rfl⟩
            rw [hgy, h4] at hbe
            have HBE := hid hbe
            have hyl := y.toNat_lt
            clear hbe hgy hi
            go_wp2_with fail
            all_goals (go_meet; exact ⟨by rw [HBE.out]; simp [*], rfl⟩)
        case rest =>
        obtain ⟨rfl, rfl⟩ := hcut
        cases hba : badAt l k with
        | true =>
          have hbad : isL l = false := isL_bad (by rwa [HL.out] at hlt) (.inr hba)
          have HB := hid hbad
          clear hbad hba
          go_wp2
          go_ret
          exact ⟨by rw [HB.out]; rfl, hI.out.2⟩
        | false =>
          have HBA := hid hba
          clear hba
          go_wp2
          go_roundw
          case rel => exact ⟨k + 1, by omega, by go_num, hid ⟨hI.out.1.succ (by rw [hgx.out]; exact HOK.out) HBA.out, hI.out.2⟩⟩
          case measure => simp [intOf]; omega
    · have hd : decide (k < (str l).size) = false := by simpa using hlt
      have hkl : k = l.length := by rw [← HL.out]; omega
      have hE : isL l = (decide ((1 : Int) ≤ (str l).size) && decide (((str l).size : Int) ≤ 60)) := by
        unfold isL
        rw [Bool.eq_iff_iff]
        have hg := hI.out.1
        rw [hkl] at hg
        simp only [hg, HL.out, and_true, decide_eq_true_eq, Bool.and_eq_true]
        omega
      obtain ⟨b1, h1⟩ : ∃ b, decide ((1 : Int) ≤ (str l).size) = b := ⟨_, rfl⟩
      obtain ⟨b2, h2⟩ : ∃ b, decide (((str l).size : Int) ≤ 60) = b := ⟨_, rfl⟩
      rw [h1, h2] at hE
      have HE := hid hE
      have hb := hI.out.2
      clear hE hkl
      go_wp2
      all_goals go_ret
      all_goals (exact ⟨by rw [HE.out]; simp [*], hb⟩)
end Go.Proofs.Ythgopanipmnphaa
