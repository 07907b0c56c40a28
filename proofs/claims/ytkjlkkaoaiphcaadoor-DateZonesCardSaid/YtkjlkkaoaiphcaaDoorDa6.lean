/-
  A text cut at an octet. A part of the proof: see the head of the text that ends in 'Law'.
-/
import Derived.Test.YtkjlkkaoaiphcaaDoorDa5
namespace Go.Proofs.YtkjlkkaoaiphcaaDoor
open Go.RowKit Go.Shelf
set_option linter.unusedVariables false
set_option linter.unusedSimpArgs false

theorem str_extract (l : List UInt8) (a b : Nat) : (str l).extract a b = str ((l.drop a).take (b - a)) := by
  apply ByteArray.ext
  rw [ByteArray.data_extract]
  show l.toArray.extract a b = ((l.drop a).take (b - a)).toArray
  simp
theorem strsT : SliceT Tryd.prog 68 9 (.string ⟨#[]⟩) 1 16 := ⟨Tryd.underlying68, by kernel_rfl, rfl, by omega⟩
def SV (l : List UInt8) : Value := .string (str l)
/-- One octet more. -/
def cutX (c x : UInt8) (acc : List (List UInt8)) : List (List UInt8) := if x = c then acc ++ [[]] else acc.set (acc.length - 1) (acc.getD (acc.length - 1) [] ++ [x])
/-- The pieces. -/
def cutF (c : UInt8) (l : List UInt8) : List (List UInt8) := l.foldl (fun acc x => cutX c x acc) [[]]
theorem cutF_snoc (c : UInt8) (l : List UInt8) (x : UInt8) : cutF c (l ++ [x]) = cutX c x (cutF c l) := by simp [cutF]
theorem cutX_len (c x : UInt8) (acc : List (List UInt8)) : acc.length ≤ (cutX c x acc).length ∧ (cutX c x acc).length ≤ acc.length + 1 := by
  unfold cutX
  split <;> simp
theorem cutG_len (c : UInt8) : ∀ (l : List UInt8) (acc : List (List UInt8)), acc.length ≤ (l.foldl (fun acc x => cutX c x acc) acc).length ∧ (l.foldl (fun acc x => cutX c x acc) acc).length ≤ acc.length + l.length
  | [], acc => ⟨Nat.le_refl _, Nat.le_refl _⟩
  | x :: l, acc => by
    have h1 := cutG_len c l (cutX c x acc)
    have h2 := cutX_len c x acc
    simp only [List.foldl_cons, List.length_cons]
    omega
theorem cutF_pos (c : UInt8) (l : List UInt8) : 0 < (cutF c l).length ∧ (cutF c l).length ≤ l.length + 1 := by
  have := cutG_len c l [[]]
  unfold cutF
  simp only [List.length_singleton] at this
  omega
theorem cutG_piece (c : UInt8) : ∀ (l : List UInt8) (acc : List (List UInt8)) (m : Nat), (∀ i, (acc.getD i []).length ≤ m) → ∀ i, ((l.foldl (fun acc x => cutX c x acc) acc).getD i []).length ≤ m + l.length
  | [], acc, m, h, i => h i
  | x :: l, acc, m, h, i => by
    have h1 : ∀ i, ((cutX c x acc).getD i []).length ≤ m + 1 := by
      intro i
      unfold cutX
      rw [List.getD_eq_getElem?_getD]
      split
      · rw [List.getElem?_append]
        split
        · have := h i; rw [List.getD_eq_getElem?_getD] at this; omega
        · cases i - acc.length <;> simp
      · rw [List.getElem?_set]
        split
        · split
          · have := h (acc.length - 1); simp at this ⊢; omega
          · simp
        · have := h i; rw [List.getD_eq_getElem?_getD] at this; omega
    have h2 := cutG_piece c l (cutX c x acc) (m + 1) h1 i
    simp only [List.foldl_cons, List.length_cons]
    omega
theorem cutF_piece (c : UInt8) (l : List UInt8) (i : Nat) : ((cutF c l).getD i []).length ≤ l.length := by
  have := cutG_piece c l [[]] 0 (by intro i; cases i <;> simp) i
  unfold cutF
  omega
theorem one_SV (q : List (List UInt8)) : ∀ u ∈ q.map SV, u.oneCell' = true := by
  intro u hu
  obtain ⟨x, _, rfl⟩ := List.mem_map.1 hu
  rfl

set_option maxHeartbeats 4000000 in
theorem cut_any (l : List UInt8) (c : UInt8) (w : World) (hl : l.length ≤ 100000) :
    Calls Tryd.prog 41 #[.string (str l), .int .u8 c.toNat] w fun e w' => ∃ A n d, e = .returned (.slice A n d) ∧ n = (cutF c l).length ∧ w'.ownsRow w.heap.size 9 1 (.slice A n d) n ((cutF c l).map SV) ∧ Below w.heap.size w w' := by
  have hsz : (str l).size ≤ 100000 := hl
  have HL : Hid ((str l).size = l.length) := hid rfl
  have hcl := c.toNat_lt
  have b0 := hid ((Below.refl _ w).alloc (Nat.le_refl _) (Obj.cells #[.string ⟨#[]⟩] 9))
  have r0 := hid (World.ownsRow_lit w (e := 9) (size := 1) #[.string ⟨#[]⟩] 1 (Nat.le_refl _) (by decide) rfl)
  clear hl
  go_enter Tryd.func41, Tryd.ntmps41
  go_wp2
  go_loopw [5, 6] (fun p i wr => ∃ (k n : Nat) (A : Option Addr) (d : Nat), k ≤ (str l).size ∧ i = .int .i64 k ∧ p = .slice A n d ∧ Hid (n = (cutF c (l.take k)).length ∧ wr.ownsRow w.heap.size 9 1 (.slice A n d) n ((cutF c (l.take k)).map SV) ∧ Below w.heap.size w wr)) (fun p i wr => (str l).size - (intOf i).toNat)
  case atStart => exact ⟨0, 1, some ⟨w.heap.size, 0, none⟩, 1, by omega, rfl, rfl, hid ⟨rfl, r0.out, b0.out⟩⟩
  case round =>
    obtain ⟨k, n, A, d, hk, rfl, rfl, hI⟩ := hrel
    clear r0 b0
    have hn1 : n ≤ k + 1 := by
      rw [hI.out.1]
      have := (cutF_pos c (l.take k)).2
      rw [List.length_take] at this
      omega
    have hn0 : 0 < n := by rw [hI.out.1]; exact (cutF_pos c (l.take k)).1
    by_cases hlt : k < (str l).size
    · have hd : decide (k < (str l).size) = true := by simpa using hlt
      have hll : k < l.length := by rwa [HL.out] at hlt
      obtain ⟨x, hx⟩ : ∃ x, (str l)[k] = x := ⟨_, rfl⟩
      have hgx : Hid (l[k] = x) := hid hx
      have htk : Hid (cutF c (l.take (k + 1)) = cutX c x (cutF c (l.take k))) := hid (by rw [List.take_succ_eq_append_getElem hll, cutF_snoc, hgx.out])
      have hxl := x.toNat_lt
      by_cases hxc : x = c
      · have d1 : ((x.toNat : Int) == (c.toNat : Int)) = true := by rw [hxc]; simp
        have d3 : (((str l)[k].toNat : Int) == (c.toNat : Int)) = true := by rw [hx]; exact d1
        have d2 : (x.toNat == c.toNat) = true := by rw [hxc]; simp
        have hce : Hid (cutF c (l.take (k + 1)) = cutF c (l.take k) ++ [[]]) := hid (by rw [htk.out]; unfold cutX; rw [if_pos hxc])
        clear hxc
        go_wp2_with (
          at_builtin
          refine wpList_append_row _ rfl (.tmp 19) (.tmp 20) strsT rfl w.heap.size (.slice A n d) n ((cutF c (l.take k)).map SV) rfl (own_alloc hI.out.2.1 _) (some ⟨wr.heap.size, 0, none⟩) 1 1 [.string ⟨#[]⟩] rfl rfl (row_box _ _ (by simp)) (by simp [Value.oneCell']) (by simp only [maxLen]; omega) (by omega) (by have := hI.out.2.2.size; simp; omega) ?_
          intro A3 c3 w3 hown3 hgr3 hat3
          have B3 := hid ((hI.out.2.2.alloc (by have := hI.out.2.2.size; simp; omega) (Obj.cells #[.string ⟨#[]⟩] 9)).grown hgr3 (by have := hI.out.2.2.size; simp; omega) (own_base hI.out.2.1))
          have P3 := hid hown3
          clear hown3 hgr3 hat3)
        go_roundw
        case rel =>
          refine ⟨k + 1, n + 1, A3, c3, by omega, by go_num, rfl, hid ⟨?_, ?_, B3.out⟩⟩
          · rw [hce.out, List.length_append, ← hI.out.1]; rfl
          · rw [hce.out, List.map_append]; exact P3.out
        case measure => simp [intOf]; omega
      · have d1 : ((x.toNat : Int) == (c.toNat : Int)) = false := by simp; intro h; exact hxc (UInt8.toNat_inj.1 (by omega))
        have d3 : (((str l)[k].toNat : Int) == (c.toNat : Int)) = false := by rw [hx]; exact d1
        have d2 : (x.toNat == c.toNat) = false := by simp; intro h; exact hxc (UInt8.toNat_inj.1 h)
        have hce : Hid (cutF c (l.take (k + 1)) = (cutF c (l.take k)).set (n - 1) ((cutF c (l.take k)).getD (n - 1) [] ++ [x])) := hid (by rw [htk.out]; unfold cutX; rw [if_neg hxc, ← hI.out.1])
        clear hxc
        obtain ⟨g, rfl, hg, og⟩ := own_row hI.out.2.1 hn0
        obtain ⟨y, hy⟩ : ∃ y, (cutF c (l.take k)).getD (n - 1) [] = y := ⟨_, rfl⟩
        have x0 : wr.cell? ⟨g, n - 1, none⟩ = some (.string (str y)) := og.cell (by
          rw [List.getElem?_map]
          rw [List.getD_eq_getElem?_getD, List.getElem?_eq_getElem (by rw [← hI.out.1]; omega), Option.getD_some] at hy
          rw [List.getElem?_eq_getElem (by rw [← hI.out.1]; omega), hy]
          rfl)
        have x1 := og.frozen (n - 1)
        have hyl : (str y).size ≤ 100000 := by
          have := cutF_piece c (l.take k) (n - 1)
          rw [hy, List.length_take] at this
          rw [str_size]
          omega
        have hx1 : (str [x]).size = 1 := rfl
        have hno : ¬ 9223372036854775807 < (str y).size + 1 := by omega
        have hce2 : Hid (cutF c (l.take (k + 1)) = (cutF c (l.take k)).set (n - 1) (y ++ [x])) := hid (by rw [← hy]; exact hce.out)
        have hex : (str l).extract k (k + 1) = str [x] := by
          rw [str_extract, Nat.add_sub_cancel_left, List.drop_eq_getElem_cons hll, hgx.out]
          rfl
        have hap : str y ++ str [x] = str (y ++ [x]) := str_append y [x]
        have hi0 : (0 : Int) ≤ (n : Int) - 1 := by omega
        have hi2 : (1 : Int) ≤ (n : Int) := by omega
        have hi3 : (n : Int) - 1 < n := by omega
        have hi1 : ((n : Int) - 1).toNat = n - 1 := by omega
        have OG := hid og
        have HG := hid hg
        clear og hy hce htk
        have hw1 : IntKind.i64.wrap ((n : Int) - 1) = (n : Int) - 1 := by rw [IntKind.wrap_i64]; omega
        have hw2 : IntKind.i64.wrap ((k : Int) + 1) = (k : Int) + 1 := by rw [IntKind.wrap_i64]; omega
        have hw3 : ((k : Int) + 1).toNat = k + 1 := by omega
        have hk0 : (0 : Int) ≤ (k : Int) := by omega
        have hk1 : (k : Int) + 1 ≤ ((str l).size : Int) := by omega
        have hk2 : (k : Int) ≤ (k : Int) + 1 := by omega
        go_upto_region 7 with fail
        refine wp_region_noPanic ?_
        refine wp_region_held_drew (S := (fun W => True)) (by kernel_rfl) (by first | assumption | trivial) (fun hHeld => ?_)
        refine wpAnyH_take (i := 0) (v := ?_) rfl (by kernel_rfl) (by kernel_rfl) (by kernel_rfl) (fun _ _ _ h => h) (Or.inl ⟨by kernel_rfl, ?_⟩) (by first | assumption | trivial) ?_
        rotate_left
        · (intro wS hSw; (try dsimp only at hSw); go_simp; try with_reducible rfl)
        (try simp only [List.append_eq, List.cons_append, List.nil_append, List.getElem_toArray, List.getElem_cons_succ, List.getElem_cons_zero, Act.put, List.setIfInBounds_toArray, List.set_cons_zero, List.set_cons_succ])
        refine wpAnyH_take (i := 1) (v := ?_) rfl (by kernel_rfl) (by kernel_rfl) (by kernel_rfl) (fun _ _ _ h => h) (Or.inl ⟨by kernel_rfl, ?_⟩) (by first | assumption | trivial) ?_
        rotate_left
        · (intro wS hSw; (try dsimp only at hSw); go_simp; try with_reducible rfl)
        (try simp only [List.append_eq, List.cons_append, List.nil_append, List.getElem_toArray, List.getElem_cons_succ, List.getElem_cons_zero, Act.put, List.setIfInBounds_toArray, List.set_cons_zero, List.set_cons_succ])
        refine wpAnyH_take (i := 2) (v := ?_) rfl (by kernel_rfl) (by kernel_rfl) (by kernel_rfl) (fun _ _ _ h => h) (Or.inl ⟨by kernel_rfl, ?_⟩) (by first | assumption | trivial) ?_
        rotate_left
        · (intro wS hSw; (try dsimp only at hSw); go_simp; try with_reducible rfl)
        (try simp only [List.append_eq, List.cons_append, List.nil_append, List.getElem_toArray, List.getElem_cons_succ, List.getElem_cons_zero, Act.put, List.setIfInBounds_toArray, List.set_cons_zero, List.set_cons_succ])
        refine wpAnyH_take (i := 3) (v := ?_) rfl (by kernel_rfl) (by kernel_rfl) (by kernel_rfl) (fun _ _ _ h => h) (Or.inl ⟨by kernel_rfl, ?_⟩) (by first | assumption | trivial) ?_
        rotate_left
        · (intro wS hSw; (try dsimp only at hSw); go_simp; try with_reducible rfl)
        (try simp only [List.append_eq, List.cons_append, List.nil_append, List.getElem_toArray, List.getElem_cons_succ, List.getElem_cons_zero, Act.put, List.setIfInBounds_toArray, List.set_cons_zero, List.set_cons_succ])
        refine wpAnyH_take (i := 4) (v := ?_) rfl (by kernel_rfl) (by kernel_rfl) (by kernel_rfl) (fun _ _ _ h => h) (Or.inl ⟨by kernel_rfl, ?_⟩) (by first | assumption | trivial) ?_
        rotate_left
        · (intro wS hSw; (try dsimp only at hSw); go_simp; try with_reducible rfl)
        (try simp only [List.append_eq, List.cons_append, List.nil_append, List.getElem_toArray, List.getElem_cons_succ, List.getElem_cons_zero, Act.put, List.setIfInBounds_toArray, List.set_cons_zero, List.set_cons_succ])
        refine wpAnyH_take (i := 6) (v := ?_) rfl (by kernel_rfl) (by kernel_rfl) (by kernel_rfl) (fun _ _ _ h => h) (Or.inl ⟨by kernel_rfl, ?_⟩) (by first | assumption | trivial) ?_
        rotate_left
        · (intro wS hSw; (try dsimp only at hSw); go_simp; try with_reducible rfl)
        (try simp only [List.append_eq, List.cons_append, List.nil_append, List.getElem_toArray, List.getElem_cons_succ, List.getElem_cons_zero, Act.put, List.setIfInBounds_toArray, List.set_cons_zero, List.set_cons_succ])
        refine wpAnyH_take (i := 7) (v := ?_) rfl (by kernel_rfl) (by kernel_rfl) (by kernel_rfl) (fun _ _ _ h => h) (Or.inl ⟨by kernel_rfl, ?_⟩) (by first | assumption | trivial) ?_
        rotate_left
        · (intro wS hSw; (try dsimp only at hSw); go_simp; try with_reducible rfl)
        (try simp only [List.append_eq, List.cons_append, List.nil_append, List.getElem_toArray, List.getElem_cons_succ, List.getElem_cons_zero, Act.put, List.setIfInBounds_toArray, List.set_cons_zero, List.set_cons_succ])
        refine wpAnyH_take (i := 8) (v := ?_) rfl (by kernel_rfl) (by kernel_rfl) (by kernel_rfl) (fun _ _ _ h => h) (Or.inl ⟨by kernel_rfl, ?_⟩) (by first | assumption | trivial) ?_
        rotate_left
        · (intro wS hSw; (try dsimp only at hSw); go_simp; try with_reducible rfl)
        (try simp only [List.append_eq, List.cons_append, List.nil_append, List.getElem_toArray, List.getElem_cons_succ, List.getElem_cons_zero, Act.put, List.setIfInBounds_toArray, List.set_cons_zero, List.set_cons_succ])
        refine wpAnyH_take (i := 9) (v := ?_) rfl (by kernel_rfl) (by kernel_rfl) (by kernel_rfl) (fun _ _ _ h => h) (Or.inl ⟨by kernel_rfl, ?_⟩) (by first | assumption | trivial) ?_
        rotate_left
        · (intro wS hSw; (try dsimp only at hSw); go_simp; try with_reducible rfl)
        (try simp only [List.append_eq, List.cons_append, List.nil_append, List.getElem_toArray, List.getElem_cons_succ, List.getElem_cons_zero, Act.put, List.setIfInBounds_toArray, List.set_cons_zero, List.set_cons_succ])
        refine wpAnyH_take (i := 10) (v := ?_) rfl (by kernel_rfl) (by kernel_rfl) (by kernel_rfl) (fun _ _ _ h => h) (Or.inl ⟨by kernel_rfl, ?_⟩) (by first | assumption | trivial) ?_
        rotate_left
        · (intro wS hSw; (try dsimp only at hSw); go_simp; try with_reducible rfl)
        (try simp only [List.append_eq, List.cons_append, List.nil_append, List.getElem_toArray, List.getElem_cons_succ, List.getElem_cons_zero, Act.put, List.setIfInBounds_toArray, List.set_cons_zero, List.set_cons_succ])
        refine wpAnyH_ready (rs := [5]) (by kernel_rfl) (by simp) ?_
        refine AllReadyH.cons rfl (fun K hK => ?_) AllReadyH.nil
        go_simp
        skip
        go_wp2_with fail
        refine hK.out _ _ (by first | assumption | trivial) (fun hHeld => ?_)
        clear hK K
        (try simp only [List.append_eq, List.cons_append, List.nil_append, List.getElem_toArray, List.getElem_cons_succ, List.getElem_cons_zero, Act.put, List.setIfInBounds_toArray, List.set_cons_zero, List.set_cons_succ])
        refine wpAnyH_take (i := 11) (v := ?_) rfl (by kernel_rfl) (by kernel_rfl) (by kernel_rfl) (fun _ _ _ h => h) (Or.inl ⟨by kernel_rfl, ?_⟩) (by first | assumption | trivial) ?_
        rotate_left
        · (intro wS hSw; (try dsimp only at hSw); go_simp; try with_reducible rfl)
        (try simp only [List.append_eq, List.cons_append, List.nil_append, List.getElem_toArray, List.getElem_cons_succ, List.getElem_cons_zero, Act.put, List.setIfInBounds_toArray, List.set_cons_zero, List.set_cons_succ])
        refine wpAnyH_take (i := 12) (v := ?_) rfl (by kernel_rfl) (by kernel_rfl) (by kernel_rfl) (fun _ _ _ h => h) (Or.inl ⟨by kernel_rfl, ?_⟩) (by first | assumption | trivial) ?_
        rotate_left
        · (intro wS hSw; (try dsimp only at hSw); go_simp; try with_reducible rfl)
        (try simp only [List.append_eq, List.cons_append, List.nil_append, List.getElem_toArray, List.getElem_cons_succ, List.getElem_cons_zero, Act.put, List.setIfInBounds_toArray, List.set_cons_zero, List.set_cons_succ])
        refine wpAnyH_ready (rs := [13]) (by kernel_rfl) (by simp) ?_
        refine AllReadyH.cons rfl (fun K hK => ?_) AllReadyH.nil
        go_simp
        skip
        go_wp2_with fail
        refine hK.out _ _ (by first | assumption | trivial) (fun hHeld => ?_)
        clear hK K
        (try simp only [List.append_eq, List.cons_append, List.nil_append, List.getElem_toArray, List.getElem_cons_succ, List.getElem_cons_zero, Act.put, List.setIfInBounds_toArray, List.set_cons_zero, List.set_cons_succ])
        refine wpAnyH_done (by kernel_rfl) ?_ _
        refine NoPanic.normal ?_
        clear hw1 hw2 hw3
        have HST := hid (hI.out.2.1.stored (n - 1) (SV (y ++ [x]))).1
        go_wp2
        go_roundw
        case rel =>
          refine ⟨k + 1, n, some ⟨g, 0, none⟩, d, by omega, by go_num, rfl, hid ⟨?_, ?_, ?_⟩⟩
          · rw [hce2.out, List.length_set]; exact hI.out.1
          · rw [hce2.out, List.map_set]; exact HST.out
          · exact bq (hI.out.2.2.setCell (p := ⟨g, n - 1, none⟩) HG.out (SV (y ++ [x]))) 1
        case measure => simp [intOf]; omega
    · have hd : decide (k < (str l).size) = false := by simpa using hlt
      have hkl : l.take k = l := by rw [List.take_of_length_le]; rw [← HL.out]; omega
      have h1 := hI.out
      rw [hkl] at h1
      have H1 := hid h1
      clear h1 hkl
      go_wp2
      go_ret
      exact ⟨A, n, d, rfl, H1.out.1, H1.out.2.1, H1.out.2.2⟩
end Go.Proofs.YtkjlkkaoaiphcaaDoor
