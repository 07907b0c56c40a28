/-
  Small texts, and which texts have another one. A part of the proof: see the head of the text that ends in 'Law'.
-/
import Derived.Test.YtonjadmldgloaaaGreatDoorSePlain
namespace Go.Proofs.YtonjadmldgloaaaGreatDoor
open Go.RowKit Go.Shelf D16
set_option linter.unusedVariables false

set_option maxHeartbeats 1000000 in
theorem fsmall_any (f : List UInt8) (w : World) (hl : f.length ≤ 100000) :
    Calls Tryz.prog 49 #[.string (str f)] w fun e w' => e = .returned (.string (str (f.map smallU))) ∧ Below w.heap.size w w' := by
  have hsz : (str f).size ≤ 100000 := hl
  obtain ⟨c, hcv⟩ := run_bytes (P := Tryz.prog) w 9 28 5 f Tryz.underlying9 Tryz.underlying28 Tryz.underlying5
  go_enter Tryz.func49, Tryz.ntmps49
  go_wp2
  have O1 := hid (bytesW_own w 5 f)
  have B1 := hid (bytesW_below w 5 f)
  clear hcv
  generalize bytesW w 5 f = W1 at *
  go_loopw [10] (fun i wr => ∃ k : Nat, k ≤ (str f).size ∧ i = .int .i64 k ∧ Hid (OwnB wr w.heap.size 5 (lowTo f k) ∧ Below w.heap.size w wr)) (fun i wr => (str f).size - (intOf i).toNat)
  case atStart => exact ⟨0, by omega, rfl, hid ⟨O1.out, B1.out⟩⟩
  case round =>
    obtain ⟨k, hk, rfl, hI⟩ := hrel
    clear O1 B1
    by_cases hlt : k < (str f).size
    · have hd : decide (k < (str f).size) = true := by simpa using hlt
      have hlf : k < f.length := hlt
      obtain ⟨x, hx⟩ : ∃ x, f[k] = x := ⟨_, rfl⟩
      have hcx : wr.cell? ⟨w.heap.size, k, none⟩ = some (.int .u8 x.toNat) := hI.out.1.cell (by rw [lowTo_get f k hlf, hx])
      have hfz : wr.frozen? ⟨w.heap.size, k, none⟩ = false := hI.out.1.frozen (by rw [lowTo_len]; exact hlf)
      have hi0 : (0 : Int) ≤ (k : Int) := by omega
      have hi1 : (k : Int) < ((str f).size : Int) := by omega
      have hxl := x.toNat_lt
      have hset := lowTo_set f k hlf
      rw [hx] at hset
      have HSET := hid hset
      have HX := hid hx
      clear hset hx
      by_cases h1 : 65 ≤ x.toNat
      · have d1 : decide (65 ≤ x.toNat) = true := by simpa using h1
        by_cases h2 : x.toNat ≤ 90
        · have d2 : decide (x.toNat ≤ 90) = true := by simpa using h2
          go_wp2
          go_roundw
          case rel =>
            have hs := hI.out.1.set k (smallU x)
            rw [HSET.out, smallU_yes h1 h2] at hs
            refine ⟨k + 1, by omega, by go_num, hid ⟨?_, hI.out.2.setCell (p := ⟨w.heap.size, k, none⟩) (Nat.le_refl _) _⟩⟩
            rw [show ((x.toNat + 32 : Nat) : Int) = (x.toNat : Int) + 32 by omega] at hs
            exact hs
          case measure => simp [intOf]; omega
        · have d2 : decide (x.toNat ≤ 90) = false := by simpa using h2
          go_wp2
          go_roundw
          case rel =>
            refine ⟨k + 1, by omega, by go_num, hid ⟨?_, hI.out.2⟩⟩
            have hs := HSET.out
            rw [smallU_no (fun h => h2 h.2)] at hs
            rw [← hs, set_same (by rw [lowTo_get f k hlf, HX.out])]
            exact hI.out.1
          case measure => simp [intOf]; omega
      · have d1 : decide (65 ≤ x.toNat) = false := by simpa using h1
        go_wp2
        go_roundw
        case rel =>
          refine ⟨k + 1, by omega, by go_num, hid ⟨?_, hI.out.2⟩⟩
          have hs := HSET.out
          rw [smallU_no (fun h => h1 h.1)] at hs
          rw [← hs, set_same (by rw [lowTo_get f k hlf, HX.out])]
          exact hI.out.1
        case measure => simp [intOf]; omega
    · have hd : decide (k < (str f).size) = false := by simpa using hlt
      have hkf : k = f.length := by have : (str f).size = f.length := rfl; omega
      have hup : lowTo f k = f.map smallU := by unfold lowTo; rw [hkf, List.take_length, List.drop_length, List.append_nil]
      have ho := hI.out.1.oct
      rw [hup, List.length_map, show f.length = (str f).size from rfl] at ho
      have hcb := run_string_oct (P := Tryz.prog) c ho Tryz.underlying28 Tryz.underlying5 Tryz.underlying9
      have hB := hid hI.out.2
      clear ho hup hkf hI
      go_wp2
      go_ret
      exact ⟨rfl, hB.out⟩
set_option maxHeartbeats 1000000 in
theorem ssmall_any (f : List UInt8) (w : World) (hl : f.length ≤ 100000) :
    Calls Tryz.prog 74 #[.string (str f)] w fun e w' => e = .returned (.string (str (f.map smallU))) ∧ Below w.heap.size w w' := by
  have hsz : (str f).size ≤ 100000 := hl
  obtain ⟨c, hcv⟩ := run_bytes (P := Tryz.prog) w 9 28 5 f Tryz.underlying9 Tryz.underlying28 Tryz.underlying5
  go_enter Tryz.func74, Tryz.ntmps74
  go_wp2
  have O1 := hid (bytesW_own w 5 f)
  have B1 := hid (bytesW_below w 5 f)
  clear hcv
  generalize bytesW w 5 f = W1 at *
  go_loopw [10] (fun i wr => ∃ k : Nat, k ≤ (str f).size ∧ i = .int .i64 k ∧ Hid (OwnB wr w.heap.size 5 (lowTo f k) ∧ Below w.heap.size w wr)) (fun i wr => (str f).size - (intOf i).toNat)
  case atStart => exact ⟨0, by omega, rfl, hid ⟨O1.out, B1.out⟩⟩
  case round =>
    obtain ⟨k, hk, rfl, hI⟩ := hrel
    clear O1 B1
    by_cases hlt : k < (str f).size
    · have hd : decide (k < (str f).size) = true := by simpa using hlt
      have hlf : k < f.length := hlt
      obtain ⟨x, hx⟩ : ∃ x, f[k] = x := ⟨_, rfl⟩
      have hcx : wr.cell? ⟨w.heap.size, k, none⟩ = some (.int .u8 x.toNat) := hI.out.1.cell (by rw [lowTo_get f k hlf, hx])
      have hfz : wr.frozen? ⟨w.heap.size, k, none⟩ = false := hI.out.1.frozen (by rw [lowTo_len]; exact hlf)
      have hi0 : (0 : Int) ≤ (k : Int) := by omega
      have hi1 : (k : Int) < ((str f).size : Int) := by omega
      have hxl := x.toNat_lt
      have hset := lowTo_set f k hlf
      rw [hx] at hset
      have HSET := hid hset
      have HX := hid hx
      clear hset hx
      by_cases h1 : 65 ≤ x.toNat
      · have d1 : decide (65 ≤ x.toNat) = true := by simpa using h1
        by_cases h2 : x.toNat ≤ 90
        · have d2 : decide (x.toNat ≤ 90) = true := by simpa using h2
          go_wp2
          go_roundw
          case rel =>
            have hs := hI.out.1.set k (smallU x)
            rw [HSET.out, smallU_yes h1 h2] at hs
            refine ⟨k + 1, by omega, by go_num, hid ⟨?_, hI.out.2.setCell (p := ⟨w.heap.size, k, none⟩) (Nat.le_refl _) _⟩⟩
            rw [show ((x.toNat + 32 : Nat) : Int) = (x.toNat : Int) + 32 by omega] at hs
            exact hs
          case measure => simp [intOf]; omega
        · have d2 : decide (x.toNat ≤ 90) = false := by simpa using h2
          go_wp2
          go_roundw
          case rel =>
            refine ⟨k + 1, by omega, by go_num, hid ⟨?_, hI.out.2⟩⟩
            have hs := HSET.out
            rw [smallU_no (fun h => h2 h.2)] at hs
            rw [← hs, set_same (by rw [lowTo_get f k hlf, HX.out])]
            exact hI.out.1
          case measure => simp [intOf]; omega
      · have d1 : decide (65 ≤ x.toNat) = false := by simpa using h1
        go_wp2
        go_roundw
        case rel =>
          refine ⟨k + 1, by omega, by go_num, hid ⟨?_, hI.out.2⟩⟩
          have hs := HSET.out
          rw [smallU_no (fun h => h1 h.1)] at hs
          rw [← hs, set_same (by rw [lowTo_get f k hlf, HX.out])]
          exact hI.out.1
        case measure => simp [intOf]; omega
    · have hd : decide (k < (str f).size) = false := by simpa using hlt
      have hkf : k = f.length := by have : (str f).size = f.length := rfl; omega
      have hup : lowTo f k = f.map smallU := by unfold lowTo; rw [hkf, List.take_length, List.drop_length, List.append_nil]
      have ho := hI.out.1.oct
      rw [hup, List.length_map, show f.length = (str f).size from rfl] at ho
      have hcb := run_string_oct (P := Tryz.prog) c ho Tryz.underlying28 Tryz.underlying5 Tryz.underlying9
      have hB := hid hI.out.2
      clear ho hup hkf hI
      go_wp2
      go_ret
      exact ⟨rfl, hB.out⟩
end Go.Proofs.YtonjadmldgloaaaGreatDoor
