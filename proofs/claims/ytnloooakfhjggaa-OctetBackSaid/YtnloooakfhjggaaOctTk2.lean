/-
  The document's reader: Raw, Text, End, walked. A part of the proof: see the head of the text that ends in 'Law'.
-/
import Derived.Test.YtnloooakfhjggaaOctTk
namespace Go.Proofs.Ytnloooakfhjggaa
open Go.RowKit
set_option linter.unusedVariables false

set_option maxHeartbeats 1000000 in
theorem traw_good (w : World) (g : Nat) (l : List UInt8) (a wh k : Nat) (hr : Tk w g l ⟨a, 0, wh⟩) (hk : a + k ≤ l.length) (hn : l.length ≤ 2147483648) :
    Calls Try.prog 23 #[.pointer (some ⟨g, 0, none⟩), .int .i64 k] w fun e w' => e = .returned (.string (str (cutL l a k))) ∧ Tk w' g l ⟨a + k, 0, wh⟩ ∧ w.grownBy w' (some g) := by
  obtain ⟨k0, k1, k2, k3, kf⟩ := hr.cells
  have f1 := kf 1
  have HR := hid hr
  simp only at k1 k2 k3
  have hsz := str_size l
  have hd : decide ((l.length : Int) - a < k) = false := by simp; omega
  clear hr kf
  go_enter Try.func23, Try.ntmps23
  go_wp2
  go_quiet (fail)
  go_wp2
  generalize hW : (w.drewN nq).setCell { block := g, off := 1 } (Value.int IntKind.i64 ((a : Int) + k)) = W
  have HRW : Hid (Tk W g l ⟨a + k, 0, wh⟩ ∧ w.grownBy W (some g)) := by
    subst hW
    have h1 := (HR.out.drewN nq).at1 (a + k)
    rw [Int.natCast_add] at h1
    exact ⟨h1, grown_q (grown_set _)⟩
  clear hW HR k0 k1 k2 k3 f1
  obtain ⟨k0, k1, _, _, _⟩ := HRW.out.1.cells
  simp only at k1
  rw [Int.natCast_add] at k1
  have hlo : (a : Int) + k - k = a := by omega
  have hb1 : 0 ≤ (a : Int) + k := by omega
  have hb2 : (a : Int) + k ≤ l.length := by omega
  have hb3 : (a : Int) ≤ max ((a : Int) + k) 0 := by omega
  have hb7 : (a : Int) ≤ (a : Int) + k := by omega
  have hb4 : IntKind.i64.wrap (a : Int) = a := by rw [IntKind.wrap_i64]; omega
  have hb5 : ((a : Int) + k).toNat - a = k := by omega
  have hb6 : a + k - a = k := by omega
  have hb8 : ((a : Int) + k).toNat = a + k := by omega
  have hex : (str l).extract a (a + k) = str (cutL l a k) := by
    rw [str_extract]
    unfold cutL
    rw [List.take_add, List.drop_left' (by rw [List.length_take]; omega)]
  go_quiet (fail)
  go_wp2
  go_ret
  exact ⟨rfl, HRW.out.1.drewN _, grown_trans HRW.out.2 (grown_q (World.grownBy.refl _ _))⟩

theorem traw_any (w : World) (g : Nat) (l : List UInt8) (s : St) (k : Int) (hr : Tk w g l s) (hn : l.length ≤ 2147483648) (ha : s.at_ ≤ l.length) :
    Calls Try.prog 23 #[.pointer (some ⟨g, 0, none⟩), .int .i64 k] w fun e w' => e = .returned (.string (str (rawS l s k).1)) ∧ Tk w' g l (rawS l s k).2 ∧ w.grownBy w' (some g) := by
  by_cases h : s.e ≠ 0 ∨ k < 0 ∨ (l.length : Int) - s.at_ < k
  · have h1 : (rawS l s k).1 = [] := by
      unfold rawS
      split
      · split
        · rfl
        · rw [if_pos (by rename_i h2 h3; omega)]
      · rfl
    rw [h1]
    exact traw_bad w g l s k hr h hn ha
  · obtain ⟨a, e0, wh⟩ := s
    simp only at h ha
    obtain ⟨q, rfl⟩ : ∃ q : Nat, k = q := ⟨k.toNat, by omega⟩
    have h0 : e0 = 0 := by omega
    subst h0
    have h1 : rawS l ⟨a, 0, wh⟩ q = (cutL l a q, ⟨a + q, 0, wh⟩) := by
      unfold rawS
      rw [if_pos rfl, if_neg (by omega), if_neg (by simp only; omega), Int.toNat_natCast]
    rw [h1]
    exact traw_good w g l a wh q hr (by omega) hn
end Go.Proofs.Ytnloooakfhjggaa
