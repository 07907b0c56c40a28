/-
  awake, AddrLists and AddrSays: the walks. A part of the proof: see the head of the text that ends in 'Law'.
-/
import Derived.Test.YtdanhdiinkgjnaaDoorAd17
namespace Go.Proofs.YtdanhdiinkgjnaaDoor
open Go.RowKit
set_option linter.unusedVariables false
attribute [local go_sem] Oper.semAt_some

def AD1 : List Ad := [⟨[65, 44, 32, 66], [97], [98]⟩, ⟨[67], [99], [100]⟩]
theorem ax1 : listL [34, 65, 44, 32, 66, 34, 32, 60, 97, 64, 98, 62, 44, 32, 99, 64, 100, 32, 40, 67, 41] = AD1 := by kernel_rfl
theorem ax2 : saysL [97, 32, 40, 120, 40, 121, 41, 122, 41, 32, 34, 98, 32, 32, 99, 34] = [97, 32, 98, 32, 32, 99] := by kernel_rfl
theorem ax3 : listL [60, 62, 44, 32, 44] = [] := by kernel_rfl
theorem ax4 : (piecesL [97, 44, 98]).length = 2 := by kernel_rfl
theorem lst1 (w : World) : Calls Tryd.prog 9 #[.string ⟨#[34, 65, 44, 32, 66, 34, 32, 60, 97, 64, 98, 62, 44, 32, 99, 64, 100, 32, 40, 67, 41]⟩] w fun e w' => ∃ A c, e = .returned (.slice A 2 c) ∧ Row w' A (AD1.flatMap adC) ∧ Below w.heap.size w w' :=
  (list_any [34, 65, 44, 32, 66, 34, 32, 60, 97, 64, 98, 62, 44, 32, 99, 64, 100, 32, 40, 67, 41] 21 rfl w (by decide)).mono fun e w' ⟨A, m, c, h1, h2, h3, h4, _⟩ => by
    rw [ax1] at h2 h3
    have h5 : m = 2 := h2.symm
    subst h5
    exact ⟨A, c, h1, Row.of_own h3, h4⟩
theorem lst3 (w : World) : Calls Tryd.prog 9 #[.string ⟨#[60, 62, 44, 32, 44]⟩] w fun e w' => ∃ A c, e = .returned (.slice A 0 c) ∧ Below w.heap.size w w' :=
  (list_any [60, 62, 44, 32, 44] 5 rfl w (by decide)).mono fun e w' ⟨A, m, c, h1, h2, h3, h4, _⟩ => by
    rw [ax3] at h2
    have h5 : m = 0 := h2.symm
    subst h5
    exact ⟨A, c, h1, h4⟩
theorem say2 (w : World) : Calls Tryd.prog 14 #[.string ⟨#[97, 32, 40, 120, 40, 121, 41, 122, 41, 32, 34, 98, 32, 32, 99, 34]⟩] w fun e w' => e = .returned (.string ⟨#[97, 32, 98, 32, 32, 99]⟩) ∧ Below w.heap.size w w' :=
  (mSays_any [97, 32, 40, 120, 40, 121, 41, 122, 41, 32, 34, 98, 32, 32, 99, 34] 16 rfl w (by decide)).mono fun e w' ⟨h1, h2⟩ => ⟨by rw [h1, ax2]; rfl, h2⟩
theorem pcs4 (w : World) : Calls Tryd.prog 12 #[.string ⟨#[97, 44, 98]⟩] w fun e w' => ∃ A c, e = .returned (.slice A 2 c) ∧ Below w.heap.size w w' :=
  (pieces_any [97, 44, 98] 3 rfl w (by decide)).mono fun e w' ⟨A, m, c, h1, h2, h3, h4, _⟩ => by
    rw [ax4] at h2
    subst h2
    exact ⟨A, c, h1, h4⟩
theorem sam1 (w : World) (A : Option Addr) (c : Nat) (h : Row w A (AD1.flatMap adC)) : Calls Tryd.prog 8 #[.slice A 2 c, .slice (some ⟨w.heap.size, 0, none⟩) 2 2] (w.alloc (.cells #[.string ⟨#[65, 44, 32, 66]⟩, .string ⟨#[97]⟩, .string ⟨#[98]⟩, .string ⟨#[67]⟩, .string ⟨#[99]⟩, .string ⟨#[100]⟩] 35)) fun e w' => e = .returned (.bool true) ∧ Below w.heap.size w w' := by
  have hb : Below w.heap.size w (w.alloc (.cells #[.string ⟨#[65, 44, 32, 66]⟩, .string ⟨#[97]⟩, .string ⟨#[98]⟩, .string ⟨#[67]⟩, .string ⟨#[99]⟩, .string ⟨#[100]⟩] 35)) := (Below.refl _ _).alloc (Nat.le_refl _) _
  exact (same_eq A _ 2 c 2 AD1 _ rfl (h.below hb) (Row.of_block (heap_alloc_new w _)) (by decide)).mono fun e w' k => ⟨k.1, next hb k.2⟩
set_option maxRecDepth 100000 in
set_option maxHeartbeats 4000000 in
theorem awake_any (w : World) : Calls Tryd.prog 11 #[] w fun e w' => e = .returned (.bool true) ∧ Below w.heap.size w w' := by
  have hq : ((⟨#[97, 32, 98, 32, 32, 99]⟩ : ByteArray) == ⟨#[97, 32, 98, 32, 32, 99]⟩) = true := by kernel_rfl
  go_enter Tryd.func11, Tryd.ntmps11
  go_upto_region 2 with (go_at_call 9; refine (lst1 _).mono ?_; rintro e w1 ⟨A1, c1, rfl, r1, b1⟩; have R := hid r1; have B := hid b1; clear r1 b1)
  go_wp2_with (first
    | (go_at_call 8; refine (sam1 _ A1 c1 R.out).mono ?_; rintro e w2 ⟨rfl, b2⟩; have B := hid (next B.out b2); clear b2)
    | (go_at_call 14; refine (say2 _).mono ?_; rintro e w3 ⟨rfl, b3⟩; have B := hid (next B.out b3); clear b3)
    | (go_at_call 9; refine (lst3 _).mono ?_; rintro e w4 ⟨A4, c4, rfl, b4⟩; have B := hid (next B.out b4); clear b4)
    | (go_at_call 12; refine (pcs4 _).mono ?_; rintro e w5 ⟨A5, c5, rfl, b5⟩; have B := hid (next B.out b5); clear b5))
  go_ret
  exact ⟨rfl, B.out⟩
set_option maxRecDepth 100000 in
set_option maxHeartbeats 4000000 in
theorem walkAddrLists (l0 : List UInt8) (w : World) (hs0 : l0.length ≤ maxLen) : Calls Tryd.prog 3 #[.string (str l0)] w fun e w' => e = .returned (.bool true) ∧ Below w.heap.size w w' := by
  clear hs0
  obtain ⟨l, hl⟩ : ∃ l, fewL l0 = l := ⟨_, rfl⟩
  have hn := fewL_len l0
  rw [hl] at hn
  have HF := hid (few_any l0 w)
  rw [hl] at HF
  have HP := hid (fun X => list_any l l.length rfl X (by omega))
  have HR := hid (fun X => rlist_any l l.length rfl X (by omega))
  rw [list_eq] at HR
  obtain ⟨xs, hxs⟩ : ∃ xs, listL l = xs := ⟨_, rfl⟩
  rw [hxs] at HP HR
  have HN := hid hn
  clear hl hxs hn
  go_enter Tryd.func3, Tryd.ntmps3
  go_wp2_with (first
    | (go_at_call 7; refine HF.out.mono ?_; rintro e w1 ⟨rfl, rfl⟩)
    | (go_at_call 9; refine (HP.out _).mono ?_; rintro e w2 ⟨A1, m1, c1, rfl, h1, h2, h3, -⟩; have HL1 := hid h1; have R1 := hid (Row.of_own h2); have B := hid h3; clear h1 h2 h3)
    | (go_at_call 10; refine (HR.out _).mono ?_; rintro e w3 ⟨A2, m2, c2, rfl, h1, h2, h3, h4⟩; have e2 := h1.symm.trans HL1.out; subst e2; have R1 := hid (R1.out.below h3); have R2 := hid (Row.of_own h2); have B := hid (next B.out h3); have HM := hid h4; clear h1 h2 h3 h4)
    | (go_at_call 8; refine (same_eq _ _ _ _ _ xs _ HL1.out R1.out R2.out HM.out).mono ?_; rintro e w4 ⟨rfl, b4⟩; have B := hid (next B.out b4); clear b4)
    | (go_at_call 11; refine (awake_any _).mono ?_; rintro e w5 ⟨rfl, b5⟩; have B := hid (next B.out b5); clear b5))
  go_ret
  exact ⟨rfl, B.out⟩
end Go.Proofs.YtdanhdiinkgjnaaDoor
