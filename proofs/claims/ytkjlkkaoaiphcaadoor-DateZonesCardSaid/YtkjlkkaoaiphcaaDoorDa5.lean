/-
  Small letters, and texts that are alike. A part of the proof: see the head of the text that ends in 'Law'.
-/
import Derived.Test.YtkjlkkaoaiphcaaDoorDa4
import Derived.Test.YtkjlkkaoaiphcaaDoorShelf

namespace Go.Proofs.YtkjlkkaoaiphcaaDoor
open Go.RowKit Go.Shelf
set_option linter.unusedVariables false
set_option linter.unusedSimpArgs false

/-- The small letter of a great one. -/
def smallU (x : UInt8) : UInt8 := if 65 ≤ x.toNat ∧ x.toNat ≤ 90 then UInt8.ofNat (x.toNat + 32) else x
theorem small_any (x : UInt8) (w : World) :
    Calls Tryd.prog 59 #[.int .u8 x.toNat] w fun e w' => e = .returned (.int .u8 (smallU x).toNat) ∧ w' = w := by
  have hx := x.toNat_lt
  unfold smallU
  generalize hn : x.toNat = n at hx
  go_enter Tryd.func59, Tryd.ntmps59
  by_cases h1 : 65 ≤ n
  · have d1 : decide (65 ≤ n) = true := by simpa using h1
    by_cases h2 : n ≤ 90
    · have d2 : decide (n ≤ 90) = true := by simpa using h2
      rw [if_pos ⟨h1, h2⟩]
      go_wp2
      go_ret
      refine ⟨?_, rfl⟩
      rw [UInt8.toNat_ofNat_of_lt' (by show n + 32 < 256; omega)]
      rfl
    · have d2 : decide (n ≤ 90) = false := by simpa using h2
      rw [if_neg (by omega)]
      go_wp2
      go_ret
      exact ⟨by rw [← hn]; rfl, rfl⟩
  · have d1 : decide (65 ≤ n) = false := by simpa using h1
    rw [if_neg (by omega)]
    go_wp2
    go_ret
    exact ⟨by rw [← hn]; rfl, rfl⟩
theorem str_beq (a b : List UInt8) : (str a == str b) = (a == b) := by
  show (a.toArray == b.toArray) = _
  simp
theorem str_bne (a b : List UInt8) : (str a != str b) = (a != b) := by
  show (!(str a == str b)) = (!(a == b))
  rw [str_beq]
theorem str_get (l : List UInt8) (k : Nat) (h : k < (str l).size) : (str l)[k] = l[k]'(by rwa [str_size] at h) := rfl
/-- Are two texts alike? -/
def alikeL (a b : List UInt8) : Bool := a.map smallU == b.map smallU

set_option maxHeartbeats 1000000 in
theorem alike_any (a b : List UInt8) (w : World) (ha : a.length ≤ 100000) :
    Calls Tryd.prog 47 #[.string (str a), .string (str b)] w fun e w' => e = .returned (.bool (alikeL a b)) ∧ Below w.heap.size w w' := by
  have hsz : (str a).size ≤ 100000 := ha
  by_cases h : a.length = b.length
  · have h1 : (((str a).size : Int) != (str b).size) = false := by rw [str_size, str_size]; simp; omega
    go_enter Tryd.func47, Tryd.ntmps47
    go_wp2
    go_loopw [5] (fun i wr => ∃ k : Nat, k ≤ (str a).size ∧ i = .int .i64 k ∧ Hid ((a.take k).map smallU = (b.take k).map smallU ∧ Below w.heap.size w wr)) (fun i wr => (str a).size - (intOf i).toNat)
    case atStart => exact ⟨0, by omega, rfl, hid ⟨by simp, Below.refl _ _⟩⟩
    case round =>
      obtain ⟨k, hk, rfl, hI⟩ := hrel
      by_cases hlt : k < (str a).size
      · have hd : decide (k < (str a).size) = true := by simpa using hlt
        have hlb : k < (str b).size := by rw [str_size] at hlt ⊢; omega
        obtain ⟨x, hx⟩ : ∃ x, (str a)[k] = x := ⟨_, rfl⟩
        obtain ⟨y, hy⟩ : ∃ y, (str b)[k] = y := ⟨_, rfl⟩
        have hxy : (a.take (k + 1)).map smallU = (b.take (k + 1)).map smallU ↔ smallU x = smallU y := by
          rw [List.take_succ_eq_append_getElem (by rwa [str_size] at hlt), List.take_succ_eq_append_getElem (by rwa [str_size] at hlb), List.map_append, List.map_append, hI.out.1, ← hx, ← hy, str_get, str_get]
          simp
        have HXY := hid hxy
        have HX := hid hx
        have HY := hid hy
        clear hxy
        have H := hid h
        clear h
        have hm := hI.out.2
        by_cases he : smallU x = smallU y
        · have d1 : (((smallU x).toNat : Int) != (smallU y).toNat) = false := by rw [he]; simp
          have d2 : ((smallU x).toNat != (smallU y).toNat) = false := by rw [he]; simp
          have HE := hid he
          clear he
          go_upto_region 6 with fail
          refine wp_region_noPanic ?_
          refine wp_region_held_drew (S := (fun W => True)) (by kernel_rfl) (by first | assumption | trivial) (fun hHeld => ?_)
          refine wpAnyH_take (i := 0) (v := ?_) rfl (by kernel_rfl) (by kernel_rfl) (by kernel_rfl) (fun _ _ _ h => h) (Or.inl ⟨by kernel_rfl, ?_⟩) (by first | assumption | trivial) ?_
          rotate_left
          · (intro wS hSw; (try dsimp only at hSw); go_simp; try with_reducible rfl)
          (try simp only [List.append_eq, List.cons_append, List.nil_append, List.getElem_toArray, List.getElem_cons_succ, List.getElem_cons_zero, Act.put, List.setIfInBounds_toArray, List.set_cons_zero, List.set_cons_succ])
          refine wpAnyH_take (i := 1) (v := ?_) rfl (by kernel_rfl) (by kernel_rfl) (by kernel_rfl) (fun _ _ _ h => h) (Or.inl ⟨by kernel_rfl, ?_⟩) (by first | assumption | trivial) ?_
          rotate_left
          · (intro wS hSw; (try dsimp only at hSw); go_simp; try with_reducible rfl)
          (try simp only [List.append_eq, List.cons_append, List.nil_append, List.getElem_toArray, List.getElem_cons_succ, List.getElem_cons_zero, Act.put, List.setIfInBounds_toArray, List.set_cons_zero, List.set_cons_succ])
          refine wpAnyH_take (i := 2) (v := ?_) rfl (by kernel_rfl) (by kernel_rfl) (by kernel_rfl) (fun _ _ _ h => h) (Or.inl ⟨by kernel_rfl, ?_⟩) (by first | assumption | trivial) ?_
          rotate_left
          · (intro wS hSw; (try dsimp only at hSw); go_simp; try with_reducible rfl)
          (try simp only [List.append_eq, List.cons_append, List.nil_append, List.getElem_toArray, List.getElem_cons_succ, List.getElem_cons_zero, Act.put, List.setIfInBounds_toArray, List.set_cons_zero, List.set_cons_succ])
          refine wpAnyH_take (i := 4) (v := ?_) rfl (by kernel_rfl) (by kernel_rfl) (by kernel_rfl) (fun _ _ _ h => h) (Or.inl ⟨by kernel_rfl, ?_⟩) (by first | assumption | trivial) ?_
          rotate_left
          · (intro wS hSw; (try dsimp only at hSw); go_simp; try with_reducible rfl)
          (try simp only [List.append_eq, List.cons_append, List.nil_append, List.getElem_toArray, List.getElem_cons_succ, List.getElem_cons_zero, Act.put, List.setIfInBounds_toArray, List.set_cons_zero, List.set_cons_succ])
          refine wpAnyH_take (i := 5) (v := ?_) rfl (by kernel_rfl) (by kernel_rfl) (by kernel_rfl) (fun _ _ _ h => h) (Or.inl ⟨by kernel_rfl, ?_⟩) (by first | assumption | trivial) ?_
          rotate_left
          · (intro wS hSw; (try dsimp only at hSw); go_simp; try with_reducible rfl)
          (try simp only [List.append_eq, List.cons_append, List.nil_append, List.getElem_toArray, List.getElem_cons_succ, List.getElem_cons_zero, Act.put, List.setIfInBounds_toArray, List.set_cons_zero, List.set_cons_succ])
          refine wpAnyH_take (i := 6) (v := ?_) rfl (by kernel_rfl) (by kernel_rfl) (by kernel_rfl) (fun _ _ _ h => h) (Or.inl ⟨by kernel_rfl, ?_⟩) (by first | assumption | trivial) ?_
          rotate_left
          · (intro wS hSw; (try dsimp only at hSw); go_simp; try with_reducible rfl)
          (try simp only [List.append_eq, List.cons_append, List.nil_append, List.getElem_toArray, List.getElem_cons_succ, List.getElem_cons_zero, Act.put, List.setIfInBounds_toArray, List.set_cons_zero, List.set_cons_succ])
          refine wpAnyH_ready (rs := [3]) (by kernel_rfl) (by simp) ?_
          refine AllReadyH.cons rfl (fun K hK => ?_) AllReadyH.nil
          go_simp
          (go_at_call 59; refine (small_any x _).mono ?_; rintro e w3 ⟨rfl, rfl⟩)
          go_wp2_with fail
          refine hK.out _ _ (by first | assumption | trivial) (fun hHeld => ?_)
          clear hK K
          (try simp only [List.append_eq, List.cons_append, List.nil_append, List.getElem_toArray, List.getElem_cons_succ, List.getElem_cons_zero, Act.put, List.setIfInBounds_toArray, List.set_cons_zero, List.set_cons_succ])
          refine wpAnyH_ready (rs := [7]) (by kernel_rfl) (by simp) ?_
          refine AllReadyH.cons rfl (fun K hK => ?_) AllReadyH.nil
          go_simp
          (go_at_call 59; refine (small_any y _).mono ?_; rintro e w4 ⟨rfl, rfl⟩)
          go_wp2_with fail
          refine hK.out _ _ (by first | assumption | trivial) (fun hHeld => ?_)
          clear hK K
          (try simp only [List.append_eq, List.cons_append, List.nil_append, List.getElem_toArray, List.getElem_cons_succ, List.getElem_cons_zero, Act.put, List.setIfInBounds_toArray, List.set_cons_zero, List.set_cons_succ])
          refine wpAnyH_take (i := 8) (v := ?_) rfl (by kernel_rfl) (by kernel_rfl) (by kernel_rfl) (fun _ _ _ h => h) (Or.inl ⟨by kernel_rfl, ?_⟩) (by first | assumption | trivial) ?_
          rotate_left
          · (intro wS hSw; (try dsimp only at hSw); go_simp; try with_reducible rfl)
          (try simp only [List.append_eq, List.cons_append, List.nil_append, List.getElem_toArray, List.getElem_cons_succ, List.getElem_cons_zero, Act.put, List.setIfInBounds_toArray, List.set_cons_zero, List.set_cons_succ])
          refine wpAnyH_done (by kernel_rfl) ?_ _
          refine NoPanic.normal ?_
          go_wp2
          go_roundw
          case rel => exact ⟨k + 1, by omega, by go_num, hid ⟨HXY.out.2 HE.out, bq hm 1⟩⟩
          case measure => simp [intOf]; omega
        · have d1 : (((smallU x).toNat : Int) != (smallU y).toNat) = true := by simp; intro h; exact he (UInt8.toNat_inj.1 (by omega))
          have d2 : ((smallU x).toNat != (smallU y).toNat) = true := by simp; intro h; exact he (UInt8.toNat_inj.1 h)
          have HE := hid he
          clear he
          go_upto_region 6 with fail
          refine wp_region_noPanic ?_
          refine wp_region_held_drew (S := (fun W => True)) (by kernel_rfl) (by first | assumption | trivial) (fun hHeld => ?_)
          refine wpAnyH_take (i := 0) (v := ?_) rfl (by kernel_rfl) (by kernel_rfl) (by kernel_rfl) (fun _ _ _ h => h) (Or.inl ⟨by kernel_rfl, ?_⟩) (by first | assumption | trivial) ?_
          rotate_left
          · (intro wS hSw; (try dsimp only at hSw); go_simp; try with_reducible rfl)
          (try simp only [List.append_eq, List.cons_append, List.nil_append, List.getElem_toArray, List.getElem_cons_succ, List.getElem_cons_zero, Act.put, List.setIfInBounds_toArray, List.set_cons_zero, List.set_cons_succ])
          refine wpAnyH_take (i := 1) (v := ?_) rfl (by kernel_rfl) (by kernel_rfl) (by kernel_rfl) (fun _ _ _ h => h) (Or.inl ⟨by kernel_rfl, ?_⟩) (by first | assumption | trivial) ?_
          rotate_left
          · (intro wS hSw; (try dsimp only at hSw); go_simp; try with_reducible rfl)
          (try simp only [List.append_eq, List.cons_append, List.nil_append, List.getElem_toArray, List.getElem_cons_succ, List.getElem_cons_zero, Act.put, List.setIfInBounds_toArray, List.set_cons_zero, List.set_cons_succ])
          refine wpAnyH_take (i := 2) (v := ?_) rfl (by kernel_rfl) (by kernel_rfl) (by kernel_rfl) (fun _ _ _ h => h) (Or.inl ⟨by kernel_rfl, ?_⟩) (by first | assumption | trivial) ?_
          rotate_left
          · (intro wS hSw; (try dsimp only at hSw); go_simp; try with_reducible rfl)
          (try simp only [List.append_eq, List.cons_append, List.nil_append, List.getElem_toArray, List.getElem_cons_succ, List.getElem_cons_zero, Act.put, List.setIfInBounds_toArray, List.set_cons_zero, List.set_cons_succ])
          refine wpAnyH_take (i := 4) (v := ?_) rfl (by kernel_rfl) (by kernel_rfl) (by kernel_rfl) (fun _ _ _ h => h) (Or.inl ⟨by kernel_rfl, ?_⟩) (by first | assumption | trivial) ?_
          rotate_left
          · (intro wS hSw; (try dsimp only at hSw); go_simp; try with_reducible rfl)
          (try simp only [List.append_eq, List.cons_append, List.nil_append, List.getElem_toArray, List.getElem_cons_succ, List.getElem_cons_zero, Act.put, List.setIfInBounds_toArray, List.set_cons_zero, List.set_cons_succ])
          refine wpAnyH_take (i := 5) (v := ?_) rfl (by kernel_rfl) (by kernel_rfl) (by kernel_rfl) (fun _ _ _ h => h) (Or.inl ⟨by kernel_rfl, ?_⟩) (by first | assumption | trivial) ?_
          rotate_left
          · (intro wS hSw; (try dsimp only at hSw); go_simp; try with_reducible rfl)
          (try simp only [List.append_eq, List.cons_append, List.nil_append, List.getElem_toArray, List.getElem_cons_succ, List.getElem_cons_zero, Act.put, List.setIfInBounds_toArray, List.set_cons_zero, List.set_cons_succ])
          refine wpAnyH_take (i := 6) (v := ?_) rfl (by kernel_rfl) (by kernel_rfl) (by kernel_rfl) (fun _ _ _ h => h) (Or.inl ⟨by kernel_rfl, ?_⟩) (by first | assumption | trivial) ?_
          rotate_left
          · (intro wS hSw; (try dsimp only at hSw); go_simp; try with_reducible rfl)
          (try simp only [List.append_eq, List.cons_append, List.nil_append, List.getElem_toArray, List.getElem_cons_succ, List.getElem_cons_zero, Act.put, List.setIfInBounds_toArray, List.set_cons_zero, List.set_cons_succ])
          refine wpAnyH_ready (rs := [3]) (by kernel_rfl) (by simp) ?_
          refine AllReadyH.cons rfl (fun K hK => ?_) AllReadyH.nil
          go_simp
          (go_at_call 59; refine (small_any x _).mono ?_; rintro e w3 ⟨rfl, rfl⟩)
          go_wp2_with fail
          refine hK.out _ _ (by first | assumption | trivial) (fun hHeld => ?_)
          clear hK K
          (try simp only [List.append_eq, List.cons_append, List.nil_append, List.getElem_toArray, List.getElem_cons_succ, List.getElem_cons_zero, Act.put, List.setIfInBounds_toArray, List.set_cons_zero, List.set_cons_succ])
          refine wpAnyH_ready (rs := [7]) (by kernel_rfl) (by simp) ?_
          refine AllReadyH.cons rfl (fun K hK => ?_) AllReadyH.nil
          go_simp
          (go_at_call 59; refine (small_any y _).mono ?_; rintro e w4 ⟨rfl, rfl⟩)
          go_wp2_with fail
          refine hK.out _ _ (by first | assumption | trivial) (fun hHeld => ?_)
          clear hK K
          (try simp only [List.append_eq, List.cons_append, List.nil_append, List.getElem_toArray, List.getElem_cons_succ, List.getElem_cons_zero, Act.put, List.setIfInBounds_toArray, List.set_cons_zero, List.set_cons_succ])
          refine wpAnyH_take (i := 8) (v := ?_) rfl (by kernel_rfl) (by kernel_rfl) (by kernel_rfl) (fun _ _ _ h => h) (Or.inl ⟨by kernel_rfl, ?_⟩) (by first | assumption | trivial) ?_
          rotate_left
          · (intro wS hSw; (try dsimp only at hSw); go_simp; try with_reducible rfl)
          (try simp only [List.append_eq, List.cons_append, List.nil_append, List.getElem_toArray, List.getElem_cons_succ, List.getElem_cons_zero, Act.put, List.setIfInBounds_toArray, List.set_cons_zero, List.set_cons_succ])
          refine wpAnyH_done (by kernel_rfl) ?_ _
          refine NoPanic.normal ?_
          have e : alikeL a b = false := by
            unfold alikeL
            rw [beq_eq_false_iff_ne]
            intro h2
            apply HE.out
            have := congrArg (fun l => l[k]?) h2
            simp only [List.getElem?_map] at this
            rw [List.getElem?_eq_getElem (by rwa [str_size] at hlt), List.getElem?_eq_getElem (by rwa [str_size] at hlb)] at this
            rw [← HX.out, ← HY.out, str_get, str_get]
            simpa using this
          have hm1 := bq hm 1
          have E := hid e
          clear e
          go_wp2
          go_ret
          exact ⟨by rw [E.out]; rfl, hm1⟩
      · have hd : decide (k < (str a).size) = false := by simpa using hlt
        have e : alikeL a b = true := by
          unfold alikeL
          rw [beq_iff_eq]
          have h1 := hI.out.1
          rw [str_size] at hk hlt
          rwa [List.take_of_length_le (by omega), List.take_of_length_le (by omega)] at h1
        have E := hid e
        clear e
        go_wp2
        go_ret
        exact ⟨by rw [E.out]; rfl, hI.out.2⟩
  · have h1 : (((str a).size : Int) != (str b).size) = true := by rw [str_size, str_size]; simp; omega
    have e : alikeL a b = false := by
      unfold alikeL
      rw [beq_eq_false_iff_ne]
      intro h2
      exact h (by simpa using congrArg List.length h2)
    rw [e]
    clear h e
    go_enter Tryd.func47, Tryd.ntmps47
    go_wp2
    go_ret
    exact ⟨rfl, Below.refl _ _⟩
end Go.Proofs.YtkjlkkaoaiphcaaDoor
