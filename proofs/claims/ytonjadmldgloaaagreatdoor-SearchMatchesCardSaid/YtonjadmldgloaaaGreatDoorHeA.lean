/-
  Small letters, texts that are alike, and empty lines; Blank octets and empty lines; Names, fields and texts of a header, in plain Lean. A part of the proof: see the head of the text that ends in 'Law'.
-/
import Derived.Test.YtonjadmldgloaaaGreatDoorHe1
namespace Go.Proofs.YtonjadmldgloaaaGreatDoor.D17
section
open Go.RowKit Go.Shelf
set_option linter.unusedVariables false
set_option linter.unusedSimpArgs false
/-- The small letter of a great one. -/
def smallU (x : UInt8) : UInt8 := if 65 ≤ x.toNat ∧ x.toNat ≤ 90 then UInt8.ofNat (x.toNat + 32) else x
theorem small_any (x : UInt8) (w : World) :
    Calls Tryz.prog 36 #[.int .u8 x.toNat] w fun e w' => e = .returned (.int .u8 (smallU x).toNat) ∧ w' = w := by
  have hx := x.toNat_lt
  unfold smallU
  generalize hn : x.toNat = n at hx
  go_enter Tryz.func36, Tryz.ntmps36
  by_cases h1 : 65 ≤ n
  · have d1 : decide (65 ≤ n) = true := by simpa using h1
    by_cases h2 : n ≤ 90
    · have d2 : decide (n ≤ 90) = true := by simpa using h2
      rw [if_pos ⟨h1, h2⟩]
      go_wp2
      go_ret
      refine ⟨?_, rfl⟩
      rw [UInt8.toNat_ofNat_of_lt' (by show n + 32 < 256; omega)]
      rfl
    · have d2 : decide (n ≤ 90) = false := by simpa using h2
      rw [if_neg (by omega)]
      go_wp2
      go_ret
      exact ⟨by rw [← hn]; rfl, rfl⟩
  · have d1 : decide (65 ≤ n) = false := by simpa using h1
    rw [if_neg (by omega)]
    go_wp2
    go_ret
    exact ⟨by rw [← hn]; rfl, rfl⟩
theorem str_beq (a b : List UInt8) : (str a == str b) = (a == b) := by
  show (a.toArray == b.toArray) = _
  simp
theorem str_bne (a b : List UInt8) : (str a != str b) = (a != b) := by
  show (!(str a == str b)) = (!(a == b))
  rw [str_beq]
/-- Are two texts alike? -/
def alikeL (a b : List UInt8) : Bool := a.map smallU == b.map smallU

set_option maxHeartbeats 1000000 in
theorem alike_any (a b : List UInt8) (w : World) (ha : a.length ≤ 100000) :
    Calls Tryz.prog 17 #[.string (str a), .string (str b)] w fun e w' => e = .returned (.bool (alikeL a b)) ∧ Below w.heap.size w w' := by
  have hsz : (str a).size ≤ 100000 := ha
  by_cases h : a.length = b.length
  · have h1 : (((str a).size : Int) != (str b).size) = false := by rw [str_size, str_size]; simp; omega
    go_enter Tryz.func17, Tryz.ntmps17
    go_wp2
    go_loopw [5] (fun i wr => ∃ k : Nat, k ≤ (str a).size ∧ i = .int .i64 k ∧ Hid ((a.take k).map smallU = (b.take k).map smallU ∧ Below w.heap.size w wr)) (fun i wr => (str a).size - (intOf i).toNat)
    case atStart => exact ⟨0, by omega, rfl, hid ⟨by simp, Below.refl _ _⟩⟩
    case round =>
      obtain ⟨k, hk, rfl, hI⟩ := hrel
      by_cases hlt : k < (str a).size
      · have hd : decide (k < (str a).size) = true := by simpa using hlt
        have hlb : k < (str b).size := by rw [str_size] at hlt ⊢; omega
        obtain ⟨x, hx⟩ : ∃ x, (str a)[k] = x := ⟨_, rfl⟩
        obtain ⟨y, hy⟩ : ∃ y, (str b)[k] = y := ⟨_, rfl⟩
        have hxy : (a.take (k + 1)).map smallU = (b.take (k + 1)).map smallU ↔ smallU x = smallU y := by
          rw [List.take_succ_eq_append_getElem (by rwa [str_size] at hlt), List.take_succ_eq_append_getElem (by rwa [str_size] at hlb), List.map_append, List.map_append, hI.out.1, ← hx, ← hy, str_get, str_get]
          simp
        have HXY := hid hxy
        have HX := hid hx
        have HY := hid hy
        clear hxy
        have H := hid h
        clear h
        have hm := hI.out.2
        by_cases he : smallU x = smallU y
        · have d1 : (((smallU x).toNat : Int) != (smallU y).toNat) = false := by rw [he]; simp
          have d2 : ((smallU x).toNat != (smallU y).toNat) = false := by rw [he]; simp
          have HE := hid he
          clear he
          go_upto_region 6 with fail
          refine wp_region_noPanic ?_
          refine wp_region_held_drew (S := (fun W => True)) (by kernel_rfl) (by first | assumption | trivial) (fun hHeld => ?_)
          refine wpAnyH_take (i := 0) (v := ?_) rfl (by kernel_rfl) (by kernel_rfl) (by kernel_rfl) (fun _ _ _ h => h) (Or.inl ⟨by kernel_rfl, ?_⟩) (by first | assumption | trivial) ?_
          rotate_left
          · (intro wS hSw; (try dsimp only at hSw); go_simp; try with_reducible rfl)
          (try simp only [List.append_eq, List.cons_append, List.nil_append, List.getElem_toArray, List.getElem_cons_succ, List.getElem_cons_zero, Act.put, List.setIfInBounds_toArray, List.set_cons_zero, List.set_cons_succ])
          refine wpAnyH_take (i := 1) (v := ?_) rfl (by kernel_rfl) (by kernel_rfl) (by kernel_rfl) (fun _ _ _ h => h) (Or.inl ⟨by kernel_rfl, ?_⟩) (by first | assumption | trivial) ?_
          rotate_left
          · (intro wS hSw; (try dsimp only at hSw); go_simp; try with_reducible rfl)
          (try simp only [List.append_eq, List.cons_append, List.nil_append, List.getElem_toArray, List.getElem_cons_succ, List.getElem_cons_zero, Act.put, List.setIfInBounds_toArray, List.set_cons_zero, List.set_cons_succ])
          refine wpAnyH_take (i := 2) (v := ?_) rfl (by kernel_rfl) (by kernel_rfl) (by kernel_rfl) (fun _ _ _ h => h) (Or.inl ⟨by kernel_rfl, ?_⟩) (by first | assumption | trivial) ?_
          rotate_left
          · (intro wS hSw; (try dsimp only at hSw); go_simp; try with_reducible rfl)
          (try simp only [List.append_eq, List.cons_append, List.nil_append, List.getElem_toArray, List.getElem_cons_succ, List.getElem_cons_zero, Act.put, List.setIfInBounds_toArray, List.set_cons_zero, List.set_cons_succ])
          refine wpAnyH_take (i := 4) (v := ?_) rfl (by kernel_rfl) (by kernel_rfl) (by kernel_rfl) (fun _ _ _ h => h) (Or.inl ⟨by kernel_rfl, ?_⟩) (by first | assumption | trivial) ?_
          rotate_left
          · (intro wS hSw; (try dsimp only at hSw); go_simp; try with_reducible rfl)
          (try simp only [List.append_eq, List.cons_append, List.nil_append, List.getElem_toArray, List.getElem_cons_succ, List.getElem_cons_zero, Act.put, List.setIfInBounds_toArray, List.set_cons_zero, List.set_cons_succ])
          refine wpAnyH_take (i := 5) (v := ?_) rfl (by kernel_rfl) (by kernel_rfl) (by kernel_rfl) (fun _ _ _ h => h) (Or.inl ⟨by kernel_rfl, ?_⟩) (by first | assumption | trivial) ?_
          rotate_left
          · (intro wS hSw; (try dsimp only at hSw); go_simp; try with_reducible rfl)
          (try simp only [List.append_eq, List.cons_append, List.nil_append, List.getElem_toArray, List.getElem_cons_succ, List.getElem_cons_zero, Act.put, List.setIfInBounds_toArray, List.set_cons_zero, List.set_cons_succ])
          refine wpAnyH_take (i := 6) (v := ?_) rfl (by kernel_rfl) (by kernel_rfl) (by kernel_rfl) (fun _ _ _ h => h) (Or.inl ⟨by kernel_rfl, ?_⟩) (by first | assumption | trivial) ?_
          rotate_left
          · (intro wS hSw; (try dsimp only at hSw); go_simp; try with_reducible rfl)
          (try simp only [List.append_eq, List.cons_append, List.nil_append, List.getElem_toArray, List.getElem_cons_succ, List.getElem_cons_zero, Act.put, List.setIfInBounds_toArray, List.set_cons_zero, List.set_cons_succ])
          refine wpAnyH_ready (rs := [3]) (by kernel_rfl) (by simp) ?_
          refine AllReadyH.cons rfl (fun K hK => ?_) AllReadyH.nil
          go_simp
          (go_at_call 36; refine (small_any x _).mono ?_; rintro e w3 ⟨rfl, rfl⟩)
          go_wp2_with fail
          refine hK.out _ _ (by first | assumption | trivial) (fun hHeld => ?_)
          clear hK K
          (try simp only [List.append_eq, List.cons_append, List.nil_append, List.getElem_toArray, List.getElem_cons_succ, List.getElem_cons_zero, Act.put, List.setIfInBounds_toArray, List.set_cons_zero, List.set_cons_succ])
          refine wpAnyH_ready (rs := [7]) (by kernel_rfl) (by simp) ?_
          refine AllReadyH.cons rfl (fun K hK => ?_) AllReadyH.nil
          go_simp
          (go_at_call 36; refine (small_any y _).mono ?_; rintro e w4 ⟨rfl, rfl⟩)
          go_wp2_with fail
          refine hK.out _ _ (by first | assumption | trivial) (fun hHeld => ?_)
          clear hK K
          (try simp only [List.append_eq, List.cons_append, List.nil_append, List.getElem_toArray, List.getElem_cons_succ, List.getElem_cons_zero, Act.put, List.setIfInBounds_toArray, List.set_cons_zero, List.set_cons_succ])
          refine wpAnyH_take (i := 8) (v := ?_) rfl (by kernel_rfl) (by kernel_rfl) (by kernel_rfl) (fun _ _ _ h => h) (Or.inl ⟨by kernel_rfl, ?_⟩) (by first | assumption | trivial) ?_
          rotate_left
          · (intro wS hSw; (try dsimp only at hSw); go_simp; try with_reducible rfl)
          (try simp only [List.append_eq, List.cons_append, List.nil_append, List.getElem_toArray, List.getElem_cons_succ, List.getElem_cons_zero, Act.put, List.setIfInBounds_toArray, List.set_cons_zero, List.set_cons_succ])
          refine wpAnyH_done (by kernel_rfl) ?_ _
          refine NoPanic.normal ?_
          go_wp2
          go_roundw
          case rel => exact ⟨k + 1, by omega, by go_num, hid ⟨HXY.out.2 HE.out, bq hm 1⟩⟩
          case measure => simp [intOf]; omega
        · have d1 : (((smallU x).toNat : Int) != (smallU y).toNat) = true := by simp; intro h; exact he (UInt8.toNat_inj.1 (by omega))
          have d2 : ((smallU x).toNat != (smallU y).toNat) = true := by simp; intro h; exact he (UInt8.toNat_inj.1 h)
          have HE := hid he
          clear he
          go_upto_region 6 with fail
          refine wp_region_noPanic ?_
          refine wp_region_held_drew (S := (fun W => True)) (by kernel_rfl) (by first | assumption | trivial) (fun hHeld => ?_)
          refine wpAnyH_take (i := 0) (v := ?_) rfl (by kernel_rfl) (by kernel_rfl) (by kernel_rfl) (fun _ _ _ h => h) (Or.inl ⟨by kernel_rfl, ?_⟩) (by first | assumption | trivial) ?_
          rotate_left
          · (intro wS hSw; (try dsimp only at hSw); go_simp; try with_reducible rfl)
          (try simp only [List.append_eq, List.cons_append, List.nil_append, List.getElem_toArray, List.getElem_cons_succ, List.getElem_cons_zero, Act.put, List.setIfInBounds_toArray, List.set_cons_zero, List.set_cons_succ])
          refine wpAnyH_take (i := 1) (v := ?_) rfl (by kernel_rfl) (by kernel_rfl) (by kernel_rfl) (fun _ _ _ h => h) (Or.inl ⟨by kernel_rfl, ?_⟩) (by first | assumption | trivial) ?_
          rotate_left
          · (intro wS hSw; (try dsimp only at hSw); go_simp; try with_reducible rfl)
          (try simp only [List.append_eq, List.cons_append, List.nil_append, List.getElem_toArray, List.getElem_cons_succ, List.getElem_cons_zero, Act.put, List.setIfInBounds_toArray, List.set_cons_zero, List.set_cons_succ])
          refine wpAnyH_take (i := 2) (v := ?_) rfl (by kernel_rfl) (by kernel_rfl) (by kernel_rfl) (fun _ _ _ h => h) (Or.inl ⟨by kernel_rfl, ?_⟩) (by first | assumption | trivial) ?_
          rotate_left
          · (intro wS hSw; (try dsimp only at hSw); go_simp; try with_reducible rfl)
          (try simp only [List.append_eq, List.cons_append, List.nil_append, List.getElem_toArray, List.getElem_cons_succ, List.getElem_cons_zero, Act.put, List.setIfInBounds_toArray, List.set_cons_zero, List.set_cons_succ])
          refine wpAnyH_take (i := 4) (v := ?_) rfl (by kernel_rfl) (by kernel_rfl) (by kernel_rfl) (fun _ _ _ h => h) (Or.inl ⟨by kernel_rfl, ?_⟩) (by first | assumption | trivial) ?_
          rotate_left
          · (intro wS hSw; (try dsimp only at hSw); go_simp; try with_reducible rfl)
          (try simp only [List.append_eq, List.cons_append, List.nil_append, List.getElem_toArray, List.getElem_cons_succ, List.getElem_cons_zero, Act.put, List.setIfInBounds_toArray, List.set_cons_zero, List.set_cons_succ])
          refine wpAnyH_take (i := 5) (v := ?_) rfl (by kernel_rfl) (by kernel_rfl) (by kernel_rfl) (fun _ _ _ h => h) (Or.inl ⟨by kernel_rfl, ?_⟩) (by first | assumption | trivial) ?_
          rotate_left
          · (intro wS hSw; (try dsimp only at hSw); go_simp; try with_reducible rfl)
          (try simp only [List.append_eq, List.cons_append, List.nil_append, List.getElem_toArray, List.getElem_cons_succ, List.getElem_cons_zero, Act.put, List.setIfInBounds_toArray, List.set_cons_zero, List.set_cons_succ])
          refine wpAnyH_take (i := 6) (v := ?_) rfl (by kernel_rfl) (by kernel_rfl) (by kernel_rfl) (fun _ _ _ h => h) (Or.inl ⟨by kernel_rfl, ?_⟩) (by first | assumption | trivial) ?_
          rotate_left
          · (intro wS hSw; (try dsimp only at hSw); go_simp; try with_reducible rfl)
          (try simp only [List.append_eq, List.cons_append, List.nil_append, List.getElem_toArray, List.getElem_cons_succ, List.getElem_cons_zero, Act.put, List.setIfInBounds_toArray, List.set_cons_zero, List.set_cons_succ])
          refine wpAnyH_ready (rs := [3]) (by kernel_rfl) (by simp) ?_
          refine AllReadyH.cons rfl (fun K hK => ?_) AllReadyH.nil
          go_simp
          (go_at_call 36; refine (small_any x _).mono ?_; rintro e w3 ⟨rfl, rfl⟩)
          go_wp2_with fail
          refine hK.out _ _ (by first | assumption | trivial) (fun hHeld => ?_)
          clear hK K
          (try simp only [List.append_eq, List.cons_append, List.nil_append, List.getElem_toArray, List.getElem_cons_succ, List.getElem_cons_zero, Act.put, List.setIfInBounds_toArray, List.set_cons_zero, List.set_cons_succ])
          refine wpAnyH_ready (rs := [7]) (by kernel_rfl) (by simp) ?_
          refine AllReadyH.cons rfl (fun K hK => ?_) AllReadyH.nil
          go_simp
          (go_at_call 36; refine (small_any y _).mono ?_; rintro e w4 ⟨rfl, rfl⟩)
          go_wp2_with fail
          refine hK.out _ _ (by first | assumption | trivial) (fun hHeld => ?_)
          clear hK K
          (try simp only [List.append_eq, List.cons_append, List.nil_append, List.getElem_toArray, List.getElem_cons_succ, List.getElem_cons_zero, Act.put, List.setIfInBounds_toArray, List.set_cons_zero, List.set_cons_succ])
          refine wpAnyH_take (i := 8) (v := ?_) rfl (by kernel_rfl) (by kernel_rfl) (by kernel_rfl) (fun _ _ _ h => h) (Or.inl ⟨by kernel_rfl, ?_⟩) (by first | assumption | trivial) ?_
          rotate_left
          · (intro wS hSw; (try dsimp only at hSw); go_simp; try with_reducible rfl)
          (try simp only [List.append_eq, List.cons_append, List.nil_append, List.getElem_toArray, List.getElem_cons_succ, List.getElem_cons_zero, Act.put, List.setIfInBounds_toArray, List.set_cons_zero, List.set_cons_succ])
          refine wpAnyH_done (by kernel_rfl) ?_ _
          refine NoPanic.normal ?_
          have e : alikeL a b = false := by
            unfold alikeL
            rw [beq_eq_false_iff_ne]
            intro h2
            apply HE.out
            have := congrArg (fun l => l[k]?) h2
            simp only [List.getElem?_map] at this
            rw [List.getElem?_eq_getElem (by rwa [str_size] at hlt), List.getElem?_eq_getElem (by rwa [str_size] at hlb)] at this
            rw [← HX.out, ← HY.out, str_get, str_get]
            simpa using this
          have hm1 := bq hm 1
          have E := hid e
          clear e
          go_wp2
          go_ret
          exact ⟨by rw [E.out]; rfl, hm1⟩
      · have hd : decide (k < (str a).size) = false := by simpa using hlt
        have e : alikeL a b = true := by
          unfold alikeL
          rw [beq_iff_eq]
          have h1 := hI.out.1
          rw [str_size] at hk hlt
          rwa [List.take_of_length_le (by omega), List.take_of_length_le (by omega)] at h1
        have E := hid e
        clear e
        go_wp2
        go_ret
        exact ⟨by rw [E.out]; rfl, hI.out.2⟩
  · have h1 : (((str a).size : Int) != (str b).size) = true := by rw [str_size, str_size]; simp; omega
    have e : alikeL a b = false := by
      unfold alikeL
      rw [beq_eq_false_iff_ne]
      intro h2
      exact h (by simpa using congrArg List.length h2)
    rw [e]
    clear h e
    go_enter Tryz.func17, Tryz.ntmps17
    go_wp2
    go_ret
    exact ⟨rfl, Below.refl _ _⟩
theorem hsmall_any (x : UInt8) (w : World) :
    Calls Tryz.prog 99 #[.int .u8 x.toNat] w fun e w' => e = .returned (.int .u8 (smallU x).toNat) ∧ w' = w := by
  have hx := x.toNat_lt
  unfold smallU
  generalize hn : x.toNat = n at hx
  go_enter Tryz.func99, Tryz.ntmps99
  by_cases h1 : 65 ≤ n
  · have d1 : decide (65 ≤ n) = true := by simpa using h1
    by_cases h2 : n ≤ 90
    · have d2 : decide (n ≤ 90) = true := by simpa using h2
      rw [if_pos ⟨h1, h2⟩]
      go_wp2
      go_ret
      refine ⟨?_, rfl⟩
      rw [UInt8.toNat_ofNat_of_lt' (by show n + 32 < 256; omega)]
      rfl
    · have d2 : decide (n ≤ 90) = false := by simpa using h2
      rw [if_neg (by omega)]
      go_wp2
      go_ret
      exact ⟨by rw [← hn]; rfl, rfl⟩
  · have d1 : decide (65 ≤ n) = false := by simpa using h1
    rw [if_neg (by omega)]
    go_wp2
    go_ret
    exact ⟨by rw [← hn]; rfl, rfl⟩
set_option maxHeartbeats 1000000 in
theorem halike_any (a b : List UInt8) (w : World) (ha : a.length ≤ 100000) :
    Calls Tryz.prog 71 #[.string (str a), .string (str b)] w fun e w' => e = .returned (.bool (alikeL a b)) ∧ Below w.heap.size w w' := by
  have hsz : (str a).size ≤ 100000 := ha
  by_cases h : a.length = b.length
  · have h1 : (((str a).size : Int) != (str b).size) = false := by rw [str_size, str_size]; simp; omega
    go_enter Tryz.func71, Tryz.ntmps71
    go_wp2
    go_step3
    go_wp2
    go_step3
    go_wp2
    go_loopw [13] (fun i wr => ∃ k : Nat, k ≤ (str a).size ∧ i = .int .i64 k ∧ Hid ((a.take k).map smallU = (b.take k).map smallU ∧ Below w.heap.size w wr)) (fun i wr => (str a).size - (intOf i).toNat)
    case atStart => exact ⟨0, by omega, rfl, hid ⟨by simp, Below.refl _ _⟩⟩
    case round =>
      obtain ⟨k, hk, rfl, hI⟩ := hrel
      by_cases hlt : k < (str a).size
      · have hd : decide (k < (str a).size) = true := by simpa using hlt
        have hlb : k < (str b).size := by rw [str_size] at hlt ⊢; omega
        obtain ⟨x, hx⟩ : ∃ x, (str a)[k] = x := ⟨_, rfl⟩
        obtain ⟨y, hy⟩ : ∃ y, (str b)[k] = y := ⟨_, rfl⟩
        have hxy : (a.take (k + 1)).map smallU = (b.take (k + 1)).map smallU ↔ smallU x = smallU y := by
          rw [List.take_succ_eq_append_getElem (by rwa [str_size] at hlt), List.take_succ_eq_append_getElem (by rwa [str_size] at hlb), List.map_append, List.map_append, hI.out.1, ← hx, ← hy, str_get, str_get]
          simp
        have HXY := hid hxy
        have HX := hid hx
        have HY := hid hy
        clear hxy
        have H := hid h
        clear h
        have hm := hI.out.2
        by_cases he : smallU x = smallU y
        · have d1 : (((smallU x).toNat : Int) == (smallU y).toNat) = true := by rw [he]; simp
          have d2 : ((smallU x).toNat == (smallU y).toNat) = true := by rw [he]; simp
          have HE := hid he
          clear he
          go_upto_region 6 with fail
          refine wp_region_noPanic ?_
          refine wp_region_held_drew (S := (fun W => True)) (by kernel_rfl) (by first | assumption | trivial) (fun hHeld => ?_)
          refine wpAnyH_take (i := 0) (v := ?_) rfl (by kernel_rfl) (by kernel_rfl) (by kernel_rfl) (fun _ _ _ h => h) (Or.inl ⟨by kernel_rfl, ?_⟩) (by first | assumption | trivial) ?_
          rotate_left
          · (intro wS hSw; (try dsimp only at hSw); go_simp; try with_reducible rfl)
          (try simp only [List.append_eq, List.cons_append, List.nil_append, List.getElem_toArray, List.getElem_cons_succ, List.getElem_cons_zero, Act.put, List.setIfInBounds_toArray, List.set_cons_zero, List.set_cons_succ])
          refine wpAnyH_take (i := 1) (v := ?_) rfl (by kernel_rfl) (by kernel_rfl) (by kernel_rfl) (fun _ _ _ h => h) (Or.inl ⟨by kernel_rfl, ?_⟩) (by first | assumption | trivial) ?_
          rotate_left
          · (intro wS hSw; (try dsimp only at hSw); go_simp; try with_reducible rfl)
          (try simp only [List.append_eq, List.cons_append, List.nil_append, List.getElem_toArray, List.getElem_cons_succ, List.getElem_cons_zero, Act.put, List.setIfInBounds_toArray, List.set_cons_zero, List.set_cons_succ])
          refine wpAnyH_take (i := 2) (v := ?_) rfl (by kernel_rfl) (by kernel_rfl) (by kernel_rfl) (fun _ _ _ h => h) (Or.inl ⟨by kernel_rfl, ?_⟩) (by first | assumption | trivial) ?_
          rotate_left
          · (intro wS hSw; (try dsimp only at hSw); go_simp; try with_reducible rfl)
          (try simp only [List.append_eq, List.cons_append, List.nil_append, List.getElem_toArray, List.getElem_cons_succ, List.getElem_cons_zero, Act.put, List.setIfInBounds_toArray, List.set_cons_zero, List.set_cons_succ])
          refine wpAnyH_take (i := 4) (v := ?_) rfl (by kernel_rfl) (by kernel_rfl) (by kernel_rfl) (fun _ _ _ h => h) (Or.inl ⟨by kernel_rfl, ?_⟩) (by first | assumption | trivial) ?_
          rotate_left
          · (intro wS hSw; (try dsimp only at hSw); go_simp; try with_reducible rfl)
          (try simp only [List.append_eq, List.cons_append, List.nil_append, List.getElem_toArray, List.getElem_cons_succ, List.getElem_cons_zero, Act.put, List.setIfInBounds_toArray, List.set_cons_zero, List.set_cons_succ])
          refine wpAnyH_take (i := 5) (v := ?_) rfl (by kernel_rfl) (by kernel_rfl) (by kernel_rfl) (fun _ _ _ h => h) (Or.inl ⟨by kernel_rfl, ?_⟩) (by first | assumption | trivial) ?_
          rotate_left
          · (intro wS hSw; (try dsimp only at hSw); go_simp; try with_reducible rfl)
          (try simp only [List.append_eq, List.cons_append, List.nil_append, List.getElem_toArray, List.getElem_cons_succ, List.getElem_cons_zero, Act.put, List.setIfInBounds_toArray, List.set_cons_zero, List.set_cons_succ])
          refine wpAnyH_take (i := 6) (v := ?_) rfl (by kernel_rfl) (by kernel_rfl) (by kernel_rfl) (fun _ _ _ h => h) (Or.inl ⟨by kernel_rfl, ?_⟩) (by first | assumption | trivial) ?_
          rotate_left
          · (intro wS hSw; (try dsimp only at hSw); go_simp; try with_reducible rfl)
          (try simp only [List.append_eq, List.cons_append, List.nil_append, List.getElem_toArray, List.getElem_cons_succ, List.getElem_cons_zero, Act.put, List.setIfInBounds_toArray, List.set_cons_zero, List.set_cons_succ])
          refine wpAnyH_ready (rs := [3]) (by kernel_rfl) (by simp) ?_
          refine AllReadyH.cons rfl (fun K hK => ?_) AllReadyH.nil
          go_simp
          (go_at_call 99; refine (hsmall_any x _).mono ?_; rintro e w3 ⟨rfl, rfl⟩)
          go_wp2_with fail
          refine hK.out _ _ (by first | assumption | trivial) (fun hHeld => ?_)
          clear hK K
          (try simp only [List.append_eq, List.cons_append, List.nil_append, List.getElem_toArray, List.getElem_cons_succ, List.getElem_cons_zero, Act.put, List.setIfInBounds_toArray, List.set_cons_zero, List.set_cons_succ])
          refine wpAnyH_ready (rs := [7]) (by kernel_rfl) (by simp) ?_
          refine AllReadyH.cons rfl (fun K hK => ?_) AllReadyH.nil
          go_simp
          (go_at_call 99; refine (hsmall_any y _).mono ?_; rintro e w4 ⟨rfl, rfl⟩)
          go_wp2_with fail
          refine hK.out _ _ (by first | assumption | trivial) (fun hHeld => ?_)
          clear hK K
          (try simp only [List.append_eq, List.cons_append, List.nil_append, List.getElem_toArray, List.getElem_cons_succ, List.getElem_cons_zero, Act.put, List.setIfInBounds_toArray, List.set_cons_zero, List.set_cons_succ])
          refine wpAnyH_take (i := 8) (v := ?_) rfl (by kernel_rfl) (by kernel_rfl) (by kernel_rfl) (fun _ _ _ h => h) (Or.inl ⟨by kernel_rfl, ?_⟩) (by first | assumption | trivial) ?_
          rotate_left
          · (intro wS hSw; (try dsimp only at hSw); go_simp; try with_reducible rfl)
          (try simp only [List.append_eq, List.cons_append, List.nil_append, List.getElem_toArray, List.getElem_cons_succ, List.getElem_cons_zero, Act.put, List.setIfInBounds_toArray, List.set_cons_zero, List.set_cons_succ])
          refine wpAnyH_done (by kernel_rfl) ?_ _
          refine NoPanic.normal ?_
          go_wp2
          go_roundw
          case rel => exact ⟨k + 1, by omega, by go_num, hid ⟨HXY.out.2 HE.out, bq hm 1⟩⟩
          case measure => simp [intOf]; omega
        · have d1 : (((smallU x).toNat : Int) == (smallU y).toNat) = false := by simp; intro h; exact he (UInt8.toNat_inj.1 (by omega))
          have d2 : ((smallU x).toNat == (smallU y).toNat) = false := by simp; intro h; exact he (UInt8.toNat_inj.1 h)
          have HE := hid he
          clear he
          go_upto_region 6 with fail
          refine wp_region_noPanic ?_
          refine wp_region_held_drew (S := (fun W => True)) (by kernel_rfl) (by first | assumption | trivial) (fun hHeld => ?_)
          refine wpAnyH_take (i := 0) (v := ?_) rfl (by kernel_rfl) (by kernel_rfl) (by kernel_rfl) (fun _ _ _ h => h) (Or.inl ⟨by kernel_rfl, ?_⟩) (by first | assumption | trivial) ?_
          rotate_left
          · (intro wS hSw; (try dsimp only at hSw); go_simp; try with_reducible rfl)
          (try simp only [List.append_eq, List.cons_append, List.nil_append, List.getElem_toArray, List.getElem_cons_succ, List.getElem_cons_zero, Act.put, List.setIfInBounds_toArray, List.set_cons_zero, List.set_cons_succ])
          refine wpAnyH_take (i := 1) (v := ?_) rfl (by kernel_rfl) (by kernel_rfl) (by kernel_rfl) (fun _ _ _ h => h) (Or.inl ⟨by kernel_rfl, ?_⟩) (by first | assumption | trivial) ?_
          rotate_left
          · (intro wS hSw; (try dsimp only at hSw); go_simp; try with_reducible rfl)
          (try simp only [List.append_eq, List.cons_append, List.nil_append, List.getElem_toArray, List.getElem_cons_succ, List.getElem_cons_zero, Act.put, List.setIfInBounds_toArray, List.set_cons_zero, List.set_cons_succ])
          refine wpAnyH_take (i := 2) (v := ?_) rfl (by kernel_rfl) (by kernel_rfl) (by kernel_rfl) (fun _ _ _ h => h) (Or.inl ⟨by kernel_rfl, ?_⟩) (by first | assumption | trivial) ?_
          rotate_left
          · (intro wS hSw; (try dsimp only at hSw); go_simp; try with_reducible rfl)
          (try simp only [List.append_eq, List.cons_append, List.nil_append, List.getElem_toArray, List.getElem_cons_succ, List.getElem_cons_zero, Act.put, List.setIfInBounds_toArray, List.set_cons_zero, List.set_cons_succ])
          refine wpAnyH_take (i := 4) (v := ?_) rfl (by kernel_rfl) (by kernel_rfl) (by kernel_rfl) (fun _ _ _ h => h) (Or.inl ⟨by kernel_rfl, ?_⟩) (by first | assumption | trivial) ?_
          rotate_left
          · (intro wS hSw; (try dsimp only at hSw); go_simp; try with_reducible rfl)
          (try simp only [List.append_eq, List.cons_append, List.nil_append, List.getElem_toArray, List.getElem_cons_succ, List.getElem_cons_zero, Act.put, List.setIfInBounds_toArray, List.set_cons_zero, List.set_cons_succ])
          refine wpAnyH_take (i := 5) (v := ?_) rfl (by kernel_rfl) (by kernel_rfl) (by kernel_rfl) (fun _ _ _ h => h) (Or.inl ⟨by kernel_rfl, ?_⟩) (by first | assumption | trivial) ?_
          rotate_left
          · (intro wS hSw; (try dsimp only at hSw); go_simp; try with_reducible rfl)
          (try simp only [List.append_eq, List.cons_append, List.nil_append, List.getElem_toArray, List.getElem_cons_succ, List.getElem_cons_zero, Act.put, List.setIfInBounds_toArray, List.set_cons_zero, List.set_cons_succ])
          refine wpAnyH_take (i := 6) (v := ?_) rfl (by kernel_rfl) (by kernel_rfl) (by kernel_rfl) (fun _ _ _ h => h) (Or.inl ⟨by kernel_rfl, ?_⟩) (by first | assumption | trivial) ?_
          rotate_left
          · (intro wS hSw; (try dsimp only at hSw); go_simp; try with_reducible rfl)
          (try simp only [List.append_eq, List.cons_append, List.nil_append, List.getElem_toArray, List.getElem_cons_succ, List.getElem_cons_zero, Act.put, List.setIfInBounds_toArray, List.set_cons_zero, List.set_cons_succ])
          refine wpAnyH_ready (rs := [3]) (by kernel_rfl) (by simp) ?_
          refine AllReadyH.cons rfl (fun K hK => ?_) AllReadyH.nil
          go_simp
          (go_at_call 99; refine (hsmall_any x _).mono ?_; rintro e w3 ⟨rfl, rfl⟩)
          go_wp2_with fail
          refine hK.out _ _ (by first | assumption | trivial) (fun hHeld => ?_)
          clear hK K
          (try simp only [List.append_eq, List.cons_append, List.nil_append, List.getElem_toArray, List.getElem_cons_succ, List.getElem_cons_zero, Act.put, List.setIfInBounds_toArray, List.set_cons_zero, List.set_cons_succ])
          refine wpAnyH_ready (rs := [7]) (by kernel_rfl) (by simp) ?_
          refine AllReadyH.cons rfl (fun K hK => ?_) AllReadyH.nil
          go_simp
          (go_at_call 99; refine (hsmall_any y _).mono ?_; rintro e w4 ⟨rfl, rfl⟩)
          go_wp2_with fail
          refine hK.out _ _ (by first | assumption | trivial) (fun hHeld => ?_)
          clear hK K
          (try simp only [List.append_eq, List.cons_append, List.nil_append, List.getElem_toArray, List.getElem_cons_succ, List.getElem_cons_zero, Act.put, List.setIfInBounds_toArray, List.set_cons_zero, List.set_cons_succ])
          refine wpAnyH_take (i := 8) (v := ?_) rfl (by kernel_rfl) (by kernel_rfl) (by kernel_rfl) (fun _ _ _ h => h) (Or.inl ⟨by kernel_rfl, ?_⟩) (by first | assumption | trivial) ?_
          rotate_left
          · (intro wS hSw; (try dsimp only at hSw); go_simp; try with_reducible rfl)
          (try simp only [List.append_eq, List.cons_append, List.nil_append, List.getElem_toArray, List.getElem_cons_succ, List.getElem_cons_zero, Act.put, List.setIfInBounds_toArray, List.set_cons_zero, List.set_cons_succ])
          refine wpAnyH_done (by kernel_rfl) ?_ _
          refine NoPanic.normal ?_
          have e : alikeL a b = false := by
            unfold alikeL
            rw [beq_eq_false_iff_ne]
            intro h2
            apply HE.out
            have := congrArg (fun l => l[k]?) h2
            simp only [List.getElem?_map] at this
            rw [List.getElem?_eq_getElem (by rwa [str_size] at hlt), List.getElem?_eq_getElem (by rwa [str_size] at hlb)] at this
            rw [← HX.out, ← HY.out, str_get, str_get]
            simpa using this
          have hm1 := bq hm 1
          have E := hid e
          clear e
          go_wp2
          try rw [Exit.noGoto_ret]
          go_ret
          exact ⟨by rw [E.out]; rfl, hm1⟩
      · have hd : decide (k < (str a).size) = false := by simpa using hlt
        have e : alikeL a b = true := by
          unfold alikeL
          rw [beq_iff_eq]
          have h1 := hI.out.1
          rw [str_size] at hk hlt
          rwa [List.take_of_length_le (by omega), List.take_of_length_le (by omega)] at h1
        have E := hid e
        clear e
        go_wp2
        try rw [Exit.noGoto_ret]
        go_ret
        exact ⟨by rw [E.out]; rfl, hI.out.2⟩
  · have h1 : (((str a).size : Int) != (str b).size) = true := by rw [str_size, str_size]; simp; omega
    have e : alikeL a b = false := by
      unfold alikeL
      rw [beq_eq_false_iff_ne]
      intro h2
      exact h (by simpa using congrArg List.length h2)
    rw [e]
    clear h e
    go_enter Tryz.func71, Tryz.ntmps71
    go_wp2
    go_step3
    go_wp2
    try rw [Exit.noGoto_ret]
    go_ret
    exact ⟨rfl, Below.refl _ _⟩
end
section
open Go.RowKit Go.Shelf
set_option linter.unusedVariables false
set_option linter.unusedSimpArgs false
theorem blank17_any (c : UInt8) (w : World) : Calls Tryz.prog 97 #[B8 c] w fun e w' => e = .returned (.bool (bl c)) ∧ w = w' := by
  unfold B8 bl
  obtain ⟨n, hn⟩ : ∃ n, c.toNat = n := ⟨_, rfl⟩
  rw [hn]
  clear hn
  by_cases h3 : n = 32
  · subst h3
    go_enter Tryz.func97, Tryz.ntmps97
    go_wp2
    go_ret
    exact ⟨rfl, rfl⟩
  · have d3 : ((n : Int) == 32) = false := by simpa using fun h : (n : Int) = 32 => h3 (by omega)
    have d3' : (n == 32) = false := by simpa using h3
    have d5 : ((n : Int) == 9) = (n == 9) := by rw [Bool.eq_iff_iff, beq_iff_eq, beq_iff_eq]; omega
    rw [d3']
    clear h3 d3'
    go_enter Tryz.func97, Tryz.ntmps97
    go_wp2
    go_ret
    exact ⟨rfl, rfl⟩
theorem rblank_any (c : UInt8) (w : World) : Calls Tryz.prog 57 #[B8 c] w fun e w' => e = .returned (.bool (bl c)) ∧ w = w' := by
  unfold B8 bl
  obtain ⟨n, hn⟩ : ∃ n, c.toNat = n := ⟨_, rfl⟩
  rw [hn]
  clear hn
  by_cases h3 : n = 32
  · subst h3
    go_enter Tryz.func57, Tryz.ntmps57
    go_wp2
    go_ret
    exact ⟨rfl, rfl⟩
  · have d3 : ((n : Int) == 32) = false := by simpa using fun h : (n : Int) = 32 => h3 (by omega)
    have d3' : (n == 32) = false := by simpa using h3
    have d5 : ((n : Int) == 9) = (n == 9) := by rw [Bool.eq_iff_iff, beq_iff_eq, beq_iff_eq]; omega
    rw [d3']
    clear h3 d3'
    go_enter Tryz.func57, Tryz.ntmps57
    go_wp2
    go_ret
    exact ⟨rfl, rfl⟩
theorem rempty_any (l : List UInt8) (w : World) : Calls Tryz.prog 56 #[.string (str l)] w fun e w' => e = .returned (.bool (emptyB l)) ∧ w = w' := by
  have q1 : (str l == (⟨#[10]⟩ : ByteArray)) = decide (l = [10]) := str_eqv l [10]
  have q2 : (str l == (⟨#[13, 10]⟩ : ByteArray)) = decide (l = [13, 10]) := str_eqv l [13, 10]
  have r1 : (l == [10]) = decide (l = [10]) := by rw [Bool.eq_iff_iff, beq_iff_eq, decide_eq_true_iff]
  have r2 : (l == [13, 10]) = decide (l = [13, 10]) := by rw [Bool.eq_iff_iff, beq_iff_eq, decide_eq_true_iff]
  unfold emptyB
  obtain ⟨a, ha⟩ : ∃ a, decide (l = [10]) = a := ⟨_, rfl⟩
  obtain ⟨b, hb⟩ : ∃ b, decide (l = [13, 10]) = b := ⟨_, rfl⟩
  rw [ha] at q1 r1 ⊢
  rw [hb] at q2 r2 ⊢
  clear ha hb
  cases a <;> cases b <;>
  · go_enter Tryz.func56, Tryz.ntmps56
    go_wp2
    go_ret
    exact ⟨rfl, rfl⟩
theorem empty_any (A : Option Addr) (n c : Nat) (l : List UInt8) (w : World) (h : Oct w A n l) : Calls Tryz.prog 76 #[.slice A n c] w fun e w' => e = .returned (.bool (emptyB l)) ∧ w = w' := by
  have q1 : (str l == (⟨#[10]⟩ : ByteArray)) = decide (l = [10]) := str_eqv l [10]
  have q2 : (str l == (⟨#[13, 10]⟩ : ByteArray)) = decide (l = [13, 10]) := str_eqv l [13, 10]
  have r1 : (l == [10]) = decide (l = [10]) := by rw [Bool.eq_iff_iff, beq_iff_eq, decide_eq_true_iff]
  have r2 : (l == [13, 10]) = decide (l = [13, 10]) := by rw [Bool.eq_iff_iff, beq_iff_eq, decide_eq_true_iff]
  have kc : (convert 28 9 (.slice A n c)).run Tryz.prog w = .ok (.string (str l)) w := run_string_oct c h Tryz.underlying28 Tryz.underlying5 Tryz.underlying9
  unfold emptyB
  obtain ⟨a, ha⟩ : ∃ a, decide (l = [10]) = a := ⟨_, rfl⟩
  obtain ⟨b, hb⟩ : ∃ b, decide (l = [13, 10]) = b := ⟨_, rfl⟩
  rw [ha] at q1 r1 ⊢
  rw [hb] at q2 r2 ⊢
  clear ha hb h
  cases a <;> cases b <;>
  · go_enter Tryz.func76, Tryz.ntmps76
    go_wp2
    go_ret
    exact ⟨rfl, rfl⟩
end
section
open Go.RowKit
set_option linter.unusedVariables false
set_option linter.unusedSimpArgs false
/-- How many octets ahead are such ones. -/
def sp (p : UInt8 → Bool) : List UInt8 → Nat
  | [] => 0
  | c :: l => if p c = true then sp p l + 1 else 0
theorem sp_le (p : UInt8 → Bool) : ∀ l, sp p l ≤ l.length
  | [] => Nat.le_refl _
  | c :: l => by
    unfold sp
    split
    · have := sp_le p l; simp; omega
    · simp
theorem sp_yes (p : UInt8 → Bool) (l : List UInt8) (k : Nat) (h : k < l.length) (c : UInt8) (hc : l[k] = c) (hp : p c = true) : sp p (l.drop k) = sp p (l.drop (k + 1)) + 1 := by
  rw [List.drop_eq_getElem_cons h, hc, sp, if_pos hp]
theorem sp_no (p : UInt8 → Bool) (l : List UInt8) (k : Nat) (h : k < l.length) (c : UInt8) (hc : l[k] = c) (hp : p c = false) : sp p (l.drop k) = 0 := by
  rw [List.drop_eq_getElem_cons h, hc, sp, if_neg (by rw [hp]; decide)]
theorem sp_end (p : UInt8 → Bool) (l : List UInt8) (k : Nat) (h : l.length ≤ k) : sp p (l.drop k) = 0 := by
  rw [List.drop_of_length_le h]; rfl
/-- What a name is made of. -/
def nmc (c : UInt8) : Bool := decide (32 < c.toNat) && decide (c.toNat < 127) && c.toNat != 58
def nmN (l : List UInt8) : Nat := sp nmc l
def nmK (l : List UInt8) : Nat := nmN l + sp bl (l.drop (nmN l))
/-- With which a line begins, and the place behind the colon. -/
def nameL (l : List UInt8) : Option (List UInt8 × Nat) :=
  if nmN l = 0 then none else if l[nmK l]?.map (·.toNat) = some 58 then some (l.take (nmN l), nmK l + 1) else none
/-- A field. -/
structure Fd where
  nm : List UInt8
  fr : Nat
  te : Nat
  at_ : Nat
deriving DecidableEq
def setTo : List Fd → Nat → List Fd
  | [], _ => []
  | [x], t => [{ x with te := t }]
  | x :: l, t => x :: setTo l t
/-- The fields of lines: of the place, what stands, and whether one is open. -/
def fdG : Nat → List (List UInt8) → List Fd → Bool → List Fd
  | _, [], out, _ => out
  | a, x :: r, out, o =>
    if emptyB x = true then out
    else if bl (x.headD 0) = true then fdG (a + x.length) r (if o = true then setTo out (a + x.length) else out) o
    else match nameL x with
      | none => fdG (a + x.length) r out false
      | some (m, k) => fdG (a + x.length) r (out ++ [⟨m, a, a + x.length, a + k⟩]) true
def fieldsL (l : List UInt8) : List Fd := fdG 0 (cutL l) [] false
/-- The header's length: lines up to the empty one. -/
def spG : Nat → List (List UInt8) → Nat
  | a, [] => a
  | a, x :: r => if emptyB x = true then a + x.length else spG (a + x.length) r
def splitL (l : List UInt8) : Nat := spG 0 (cutL l)
/-- A line without its end. -/
def chop (x : List UInt8) : List UInt8 :=
  if x.getLast? = some 10 then (if x.dropLast.getLast? = some 13 then x.dropLast.dropLast else x.dropLast) else x
def trimB (l : List UInt8) : List UInt8 := Lib.trimS l [32, 9]
def textL (l : List UInt8) : List UInt8 := trimB ((cutL l).map chop).flatten
def fdText (l : List UInt8) (f : Fd) : List UInt8 := textL ((l.drop f.at_).take (f.te - f.at_))
end
end Go.Proofs.YtonjadmldgloaaaGreatDoor.D17
