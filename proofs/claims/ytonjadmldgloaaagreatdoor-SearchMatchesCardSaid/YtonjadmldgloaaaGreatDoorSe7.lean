/-
  Texts within others, as the document has them. A part of the proof: see the head of the text that ends in 'Law'.
-/
import Derived.Test.YtonjadmldgloaaaGreatDoorSe6
namespace Go.Proofs.YtonjadmldgloaaaGreatDoor
open Go.RowKit Go.Shelf
set_option linter.unusedVariables false
attribute [local go_sem] Oper.semAt_some

theorem occ_at (s t : List UInt8) (i : Nat) : Lib.occAt (smallL s) (smallL t) i = D16.alikeL ((s.drop i).take t.length) t := by
  unfold Lib.occAt D16.alikeL smallL
  rw [← List.map_drop, Bool.eq_iff_iff, List.isPrefixOf_iff_prefix, beq_iff_eq, List.prefix_iff_eq_take, List.length_map, ← List.map_take]
  exact eq_comm
theorem has_yes {s t : List UInt8} {i : Nat} (h : i + t.length ≤ s.length) (ha : D16.alikeL ((s.drop i).take t.length) t = true) : hasL s t = true := by
  unfold hasL Lib.contains
  rw [decide_eq_true_eq]
  rcases Lib.index_spec (smallL s) (smallL t) with ⟨-, h2⟩ | ⟨j, h1, -⟩
  · have := h2 i (by rw [List.length_map]; omega)
    rw [occ_at, ha] at this
    cases this
  · rw [h1]; omega
theorem has_no {s t : List UInt8} (h : ∀ i, i + t.length ≤ s.length → D16.alikeL ((s.drop i).take t.length) t = false) : hasL s t = false := by
  unfold hasL Lib.contains
  rw [decide_eq_false_iff_not]
  rcases Lib.index_spec (smallL s) (smallL t) with ⟨h1, -⟩ | ⟨j, h1, h2, h3, -⟩
  · rw [h1]; decide
  · exfalso
    rw [List.length_map] at h2
    rw [occ_at] at h3
    by_cases hj : j + t.length ≤ s.length
    · rw [h j hj] at h3; cases h3
    · have h4 := congrArg List.length (eq_of_beq (show ((s.drop j).take t.length).map D16.smallU == t.map D16.smallU from h3))
      rw [List.length_map, List.length_map, List.length_take, List.length_drop] at h4
      omega
set_option maxHeartbeats 2000000 in
theorem rhas_any (s t : List UInt8) (w : World) (hs : s.length ≤ 100000) (ht : t.length ≤ 100000) :
    Calls Tryz.prog 31 #[.string (str s), .string (str t)] w fun e w' => e = .returned (.bool (hasL s t)) ∧ Below w.heap.size w w' := by
  obtain ⟨sl, hsl⟩ : ∃ n, s.length = n := ⟨_, rfl⟩
  obtain ⟨tl, htl⟩ : ∃ n, t.length = n := ⟨_, rfl⟩
  have hss : (str s).size = sl := hsl
  have hst : (str t).size = tl := htl
  have HNO := hid (@has_no s t)
  have HYE := hid (fun i => @has_yes s t i)
  rw [htl, hsl] at HNO HYE
  have HAL := hid (fun (i : Nat) (X : World) => D17.alike_any ((s.drop i).take tl) t X (by rw [List.length_take, List.length_drop]; omega))
  have hsb : sl ≤ 100000 := by omega
  have htb : tl ≤ 100000 := by omega
  clear hs ht hsl htl
  go_enter Tryz.func31, Tryz.ntmps31
  go_wp2_with fail
  go_loopw [5] (fun i wr => ∃ k : Nat, k ≤ sl + 1 ∧ i = .int .i64 (k : Int) ∧ Hid (∀ j, j < k → D16.alikeL ((s.drop j).take tl) t = false) ∧ Hid (Below w.heap.size w wr)) (fun i wr => sl + 1 - (intOf i).toNat)
  case atStart => exact ⟨0, by omega, rfl, hid (fun j h => by omega), hid (Below.refl _ _)⟩
  case round =>
    obtain ⟨k, hk, rfl, hM, hB⟩ := hrel
    obtain ⟨p, hp⟩ : ∃ p, k + tl = p := ⟨_, rfl⟩
    have jw : IntKind.i64.wrap ((k : Int) + (tl : Int)) = (p : Int) := by rw [IntKind.wrap_i64]; omega
    by_cases hlt : p ≤ sl
    · have d1 : decide ((p : Int) ≤ (sl : Int)) = true := by simp; omega
      have d1' : decide (p ≤ sl) = true := by simpa using hlt
      have i0 : (0 : Int) ≤ (k : Int) := by omega
      have i1 : (k : Int) ≤ (p : Int) := by omega
      have i2 : (p : Int) ≤ (sl : Int) := by omega
      have i3 : (k : Int).toNat = k := by omega
      have i4 : (p : Int).toNat = p := by omega
      have i5 : k ≤ p := by omega
      obtain ⟨y, hy⟩ : ∃ y, (s.drop k).take tl = y := ⟨_, rfl⟩
      have hx : (str s).extract k p = str y := by rw [← hy, str_extract, show p - k = tl by omega]
      have HA := hid (HAL.out k)
      have HYK := hid (HYE.out k)
      rw [hy, show D17.alikeL y t = D16.alikeL y t from rfl] at HA
      rw [hy, hp] at HYK
      have HY := hid hy
      have HLT := hid hlt
      obtain ⟨z, hz⟩ : ∃ z, D16.alikeL y t = z := ⟨_, rfl⟩
      rw [hz] at HA
      have HZ := hid hz
      clear hp hy hz hlt
      cases z with
      | true =>
        have HT := hid (HYK.out HLT.out HZ.out)
        go_wp2_with (go_at_call 17; (with_reducible refine (HA.out _).mono ?_); rintro e w6 ⟨rfl, b6⟩; have HB6 := hid (next hB.out b6); clear b6)
        go_ret
        exact ⟨by rw [HT.out]; rfl, HB6.out⟩
      | false =>
        have HM2 := hid (fun j (hj : j < k + 1) => (by
          by_cases h : j < k
          · exact hM.out j h
          · obtain rfl : j = k := by omega
            rw [HY.out]; exact HZ.out : D16.alikeL ((s.drop j).take tl) t = false))
        go_wp2_with (go_at_call 17; (with_reducible refine (HA.out _).mono ?_); rintro e w6 ⟨rfl, b6⟩; have HB6 := hid (next hB.out b6); clear b6)
        go_roundw
        case rel => exact ⟨k + 1, by omega, by go_num, HM2, HB6⟩
        case measure => simp [intOf]; omega
    · have d1 : decide ((p : Int) ≤ (sl : Int)) = false := by simp; omega
      have d1' : decide (p ≤ sl) = false := by simpa using hlt
      have HT := hid (HNO.out (fun i hi => hM.out i (by omega)))
      clear hp hlt
      go_wp2_with fail
      go_ret
      exact ⟨by rw [HT.out]; rfl, hB.out⟩
end Go.Proofs.YtonjadmldgloaaaGreatDoor
