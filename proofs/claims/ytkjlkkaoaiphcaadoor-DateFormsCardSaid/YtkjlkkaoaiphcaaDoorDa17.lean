/-
  What the law's own examples answer, and what the laid tables give. A part of the proof: see the head of the text that ends in 'Law'.
-/
import Derived.Test.YtkjlkkaoaiphcaaDoorDa16
import Derived.Test.YtkjlkkaoaiphcaaDoorRows
import Derived.ProofKit
import Derived.Shelf.Lay
import Derived.Lay
import Derived.LaidOnce
import Derived.Lib.LaidU8T
import Derived.PinnedBridge
namespace Go.Proofs.YtkjlkkaoaiphcaaDoor
open Go.RowKit Go.Shelf
set_option linter.unusedVariables false
attribute [local go_sem] Oper.semAt_some

def renU : Go.Shelf.Ren := ⟨fun n => n, fun | 5 => 5 | 119 => 110 | 138 => 113 | 139 => 114 | n => n, fun | 3 => 0 | 4 => 1 | n => n⟩
/-- What the listed tables give the walks. -/
theorem tabs_laid {W : World} (h : laidMetH Tryd.prog [("unicode/utf8.acceptRanges", Rows.laid_unicode_utf8_acceptRanges), ("unicode/utf8.first", Rows.laid_unicode_utf8_first)] W) : Lib.Utf8Tabs 0 1 W := by
  rw [MakeChecks.laidMetH_plain _ _ _ (by kernel_rfl)] at h
  exact utf8Tabs_of_readsT (ρ := renU) ⟨by kernel_rfl, by kernel_rfl, by kernel_rfl, by kernel_rfl⟩ ⟨by kernel_rfl, by kernel_rfl, by kernel_rfl, by kernel_rfl, by kernel_rfl, by kernel_rfl, by kernel_rfl⟩
    (Pinned.utf8First_eq ▸ Lib.laidMet.reads h (.tail _ (.head _))) ((show Rows.laid_unicode_utf8_acceptRanges = Lib.acceptData by kernel_rfl) ▸ Lib.laidMet.reads h (.head _))

theorem tabs_keep {w w1 : World} (h : Lib.Utf8Tabs 0 1 w) (hb : Below w.heap.size w w1) : Lib.Utf8Tabs 0 1 w1 :=
  ⟨fun c hc => cells_keep hb (h.1 c hc), fun i hi => ⟨cells_keep hb (h.2 i hi).1, cells_keep hb (h.2 i hi).2⟩⟩
def mailX : List UInt8 := [77, 111, 110, 44, 32, 55, 32, 70, 101, 98, 32, 49, 57, 57, 52, 32, 50, 49, 58, 53, 50, 58, 50, 53, 32, 45, 48, 56, 48, 48]
def dateX : List UInt8 := [32, 49, 45, 74, 97, 110, 45, 49, 57, 55, 48, 32, 48, 49, 58, 48, 48, 58, 48, 48, 32, 43, 48, 49, 48, 48]
theorem mailX_f : mailF mailX = (8803, 0) := by decide +kernel
theorem dateX_f : formL 0 60 = dateX := by
  have e : civ ((0 + 60 * 60) / 86400) = (1970, 1, 1) := civ_eq (by decide) (by decide +kernel)
  unfold formL
  rw [e]
  decide +kernel
set_option maxRecDepth 100000 in
theorem awake_any (w : World) (hT : Lib.Utf8Tabs 0 1 w) :
    Calls Tryd.prog 12 #[] w fun e w' => e = .returned (.bool true) ∧ Below w.heap.size w w' := by
  have e1 : dayN 1970 1 1 = 0 := by decide +kernel
  have e2 : dayN 2000 2 29 = 11016 := by decide +kernel
  have c1 := hid (fun w => show Calls Tryd.prog 8 #[.int .i64 1970, .int .i64 1, .int .i64 1] w (fun e w' => e = .returned (.tuple #[.int .i64 0, .int .i64 0]) ∧ w = w') by
    have := days_yes 1970 1 1 w (by decide)
    rw [e1] at this
    exact this)
  have c2 := hid (fun w => show Calls Tryd.prog 8 #[.int .i64 2000, .int .i64 2, .int .i64 29] w (fun e w' => e = .returned (.tuple #[.int .i64 11016, .int .i64 0]) ∧ w = w') by
    have := days_yes 2000 2 29 w (by decide)
    rw [e2] at this
    exact this)
  have c3 := hid (fun w => days_no 1900 2 29 w (by
    rintro ⟨a, b, c, h1, h2, h3, h4⟩
    obtain rfl : a = 1900 := by omega
    obtain rfl : b = 2 := by omega
    obtain rfl : c = 29 := by omega
    revert h4
    decide))
  have c4 := hid (fun w => show Calls Tryd.prog 14 #[.agg #[.int .i64 0, .int .i64 60]] w (fun e w' => e = .returned (.tuple #[.string ⟨#[32, 49, 45, 74, 97, 110, 45, 49, 57, 55, 48, 32, 48, 49, 58, 48, 48, 58, 48, 48, 32, 43, 48, 49, 48, 48]⟩, .int .i64 0]) ∧ Below w.heap.size w w') by
    have := format_yes 0 60 w (by decide)
    rw [dateX_f] at this
    exact this)
  have c5 := hid (fun w (hT : Lib.Utf8Tabs 0 1 w) => show Calls Tryd.prog 23 #[.string ⟨#[77, 111, 110, 44, 32, 55, 32, 70, 101, 98, 32, 49, 57, 57, 52, 32, 50, 49, 58, 53, 50, 58, 50, 53, 32, 45, 48, 56, 48, 48]⟩] w (fun e w' => e = .returned (.tuple #[.int .i64 8803, .int .i64 0]) ∧ Below w.heap.size w w') by
    have := mail_any mailX (by decide) w hT
    rw [mailX_f] at this
    exact this)
  have HT := hid hT
  have HB := hid (Below.refl w.heap.size w)
  clear hT e1 e2
  go_enter Tryd.func12, Tryd.ntmps12
  go_wp2_with (first
    | (go_at_call 8; (with_reducible refine (c1.out _).mono ?_); rintro e w1 ⟨rfl, rfl⟩)
    | (go_at_call 8; (with_reducible refine (c2.out _).mono ?_); rintro e w1 ⟨rfl, rfl⟩)
    | (go_at_call 8; (with_reducible refine (c3.out _).mono ?_); rintro e w1 ⟨rfl, rfl⟩)
    | (go_at_call 14; (with_reducible refine (c4.out _).mono ?_); rintro e w1 ⟨rfl, b1⟩; have HB := hid (HB.out.trans (b1.mono HB.out.size)); clear b1)
    | (go_at_call 23; (with_reducible refine (c5.out _ (tabs_keep HT.out HB.out)).mono ?_); rintro e w2 ⟨rfl, b2⟩; have HB := hid (HB.out.trans (b2.mono HB.out.size)); clear b2))
  go_ret
  exact ⟨rfl, HB.out⟩
end Go.Proofs.YtkjlkkaoaiphcaaDoor
