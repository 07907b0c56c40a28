/-
  The reader's Raw (refused, and where nothing is there), End and Read, walked. A part of the proof: see the head of the text that ends in 'Law'.
-/
import Derived.Test.YtnloooakfhjggaaOctRaw
namespace Go.Proofs.Ytnloooakfhjggaa
open Go.RowKit
set_option linter.unusedVariables false

set_option maxHeartbeats 1000000 in
theorem raw_none (w : World) (g : Nat) (c : Nat) (wh : Nat) (hr : Rd w g none 0 c [] 0 0 wh) (hc : c ≤ 2147483648) :
    Calls Try.prog 17 #[.pointer (some ⟨g, 0, none⟩), .int .i64 (0 : Nat)] w fun e w' => ∃ A' c', e = .returned (.slice A' 0 c') ∧ Oct w' A' 0 [] ∧ Rd w' g none 0 c [] 0 0 wh ∧ w.grownBy w' (some g) := by
  obtain ⟨k0, k1, k2, k3, kf⟩ := hr.cells
  have f1 := kf 1
  have HR := hid hr
  clear hr kf
  go_enter Try.func17, Try.ntmps17
  go_wp2
  go_quiet (fail)
  go_wp2
  generalize hW : (w.drewN nq).setCell { block := g, off := 1 } (Value.int IntKind.i64 0) = W
  have HRW : Hid (Rd W g none 0 c [] 0 0 wh ∧ w.grownBy W (some g)) := by
    subst hW
    exact ⟨(HR.out.drewN nq).at1 0, grown_q (grown_set _)⟩
  clear hW HR k0 k1 k2 k3 f1
  obtain ⟨k0, k1, _, _, _⟩ := HRW.out.1.cells
  have hb4 : IntKind.i64.wrap 0 = 0 := by rw [IntKind.wrap_i64]; omega
  go_region_law (
    (refine step_append_row _ rfl (.const (.slice none 0 0)) (.tmp 61) bytesT rfl W.heap.size (.slice none 0 0) 0 [] rfl (World.ownsRow_nil _ _ _ _) none 0 c [] rfl rfl (Row.nil _ _) (one_B8 []) (by simp only [maxLen]; omega) (by omega) (Nat.le_refl _) ?_
     intro A1 c1 w3 hown1 hgr1 hat1
     have hb3 : Below W.heap.size W w3 := (Below.refl W.heap.size W).drew.grown hgr1 (Nat.le_refl _) (fun k hk => by simp [Value.ownBlock] at hk)
     simp only [Nat.zero_add, List.nil_append] at hown1 hat1
     clear hgr1))
  all_goals
    go_wp2
    go_ret
    have hb4 : w.grownBy w3 (some g) := grown_below HRW.out.2 hb3
    exact ⟨A1, c1, rfl, Oct.nil _ _, HRW.out.1.below hb3, hb4⟩

theorem raw_bad (w : World) (g : Nat) (A : Option Addr) (n c : Nat) (l : List UInt8) (a e0 wh : Nat) (k : Int) (hr : Rd w g A n c l a e0 wh) (h : e0 ≠ 0 ∨ k < 0 ∨ (n : Int) - a < k) (hn : n ≤ 2147483648) (han : a ≤ n) :
    Calls Try.prog 17 #[.pointer (some ⟨g, 0, none⟩), .int .i64 k] w fun e w' => e = .returned (.slice none 0 0) ∧ RdS w' g A n c l (rawS l ⟨a, e0, wh⟩ k).2 ∧ w.grownBy w' (some g) := by
  obtain ⟨k0, k1, k2, k3, kf⟩ := hr.cells
  have HR := hid hr
  have hl := hr.2.1.len
  clear hr kf
  unfold rawS
  by_cases h0 : e0 = 0
  · subst h0
    rw [if_pos rfl]
    by_cases h1 : k < 0
    · rw [if_pos h1]
      go_enter Try.func17, Try.ntmps17
      go_wp2_with (go_at_call 28; refine (fail_any _ g A n c l a wh 1 a HR.out).mono ?_; rintro e w1 ⟨rfl, hr1, hg1⟩)
      go_ret
      exact ⟨rfl, hr1, hg1⟩
    · rw [if_neg h1, if_pos (by simp only; omega)]
      have hd : decide ((n : Int) - a < k) = true := by simp; omega
      go_enter Try.func17, Try.ntmps17
      go_wp2
      go_quiet (fail)
      go_wp2_with (go_at_call 28; refine (fail_any _ g A n c l a wh 2 a (HR.out.drewN _)).mono ?_; rintro e w1 ⟨rfl, hr1, hg1⟩)
      go_ret
      exact ⟨rfl, hr1, grown_q hg1⟩
  · rw [if_neg h0]
    have hx1 : (((e0 : Nat) : Int) == 0) = false := by simp; omega
    go_enter Try.func17, Try.ntmps17
    go_wp2
    go_ret
    exact ⟨rfl, HR.out, World.grownBy.refl _ _⟩

theorem rraw_any (w : World) (g : Nat) (A : Option Addr) (n c : Nat) (l : List UInt8) (s : St) (k : Int) (hr : RdS w g A n c l s) (hn : n ≤ 2147483648) (hc : A = none → c ≤ 2147483648) (ha : s.at_ ≤ n) :
    Calls Try.prog 17 #[.pointer (some ⟨g, 0, none⟩), .int .i64 k] w fun e w' => ∃ A' c', e = .returned (.slice A' (rawS l s k).1.length c') ∧ Oct w' A' (rawS l s k).1.length (rawS l s k).1 ∧ RdS w' g A n c l (rawS l s k).2 ∧ w.grownBy w' (some g) := by
  obtain ⟨a, e0, wh⟩ := s
  have hl := hr.2.1.len
  simp only [RdS] at *
  by_cases h : e0 ≠ 0 ∨ k < 0 ∨ (n : Int) - a < k
  · have h1 : (rawS l ⟨a, e0, wh⟩ k).1 = [] := by
      unfold rawS
      split
      · split
        · rfl
        · rw [if_pos (by rename_i h2 h3; simp only at h2 ⊢; omega)]
      · rfl
    rw [h1]
    exact (raw_bad w g A n c l a e0 wh k hr h hn ha).mono fun e w' ⟨he, h2, h3⟩ => ⟨none, 0, he, Oct.nil _ _, h2, h3⟩
  · obtain ⟨q, rfl⟩ : ∃ q : Nat, k = q := ⟨k.toNat, by omega⟩
    have h0 : e0 = 0 := by omega
    subst h0
    have h1 : rawS l ⟨a, 0, wh⟩ q = (cutL l a q, ⟨a + q, 0, wh⟩) := by
      unfold rawS
      rw [if_pos rfl, if_neg (by omega), if_neg (by simp only; omega), Int.toNat_natCast]
    rw [h1]
    simp only [cutL_length l a q (by omega)]
    cases A with
    | none =>
      have hz : l = [] := by
        rcases l with _ | ⟨x, r⟩
        · rfl
        · obtain ⟨b, off, h, _⟩ := hr.2.1.2 (by simp)
          cases h
      subst hz
      simp only [List.length_nil] at hl
      subst hl
      have h2 : a = 0 := by omega
      have h3 : q = 0 := by omega
      subst h2 h3
      exact raw_none w g c wh hr (hc rfl)
    | some ad => exact raw_some w g ad n c l a wh q hr hn (by omega)

theorem rend_any (w : World) (g : Nat) (A : Option Addr) (n c : Nat) (l : List UInt8) (s : St) (hr : RdS w g A n c l s) :
    Calls Try.prog 20 #[.pointer (some ⟨g, 0, none⟩)] w fun e w' => e = .returned (.tuple #[.int .i64 (endS l s).1, .int .i64 (endS l s).2]) ∧ RdS w' g A n c l s ∧ w.grownBy w' none := by
  obtain ⟨a, e0, wh⟩ := s
  obtain ⟨k0, k1, k2, k3, kf⟩ := hr.cells
  have HR := hid hr
  have hl := hr.2.1.len
  simp only [RdS] at *
  clear hr kf
  unfold endS
  have hg : ∀ k, w.grownBy (w.drewN k) none := fun k => ⟨rfl, rfl, rfl, Nat.le_refl _, fun _ _ _ => rfl⟩
  by_cases h0 : e0 = 0
  · subst h0
    by_cases h1 : a < n
    · rw [if_pos ⟨rfl, by simp only; omega⟩]
      have hd : decide (a < n) = true := by simpa using h1
      have hd1 : decide ((a : Int) < n) = true := by simpa using h1
      go_enter Try.func20, Try.ntmps20
      go_wp2
      go_quiet (fail)
      go_wp2
      go_quiet (fail)
      go_wp2
      go_ret2
      exact ⟨rfl, (HR.out.drewN _).drewN _, grown_q (grown_q (World.grownBy.refl _ _))⟩
    · rw [if_neg (by simp only; omega)]
      have hd : decide (a < n) = false := by simpa using h1
      have hd1 : decide ((a : Int) < n) = false := by simpa using h1
      go_enter Try.func20, Try.ntmps20
      go_wp2
      go_quiet (fail)
      go_wp2_with (go_at_call 24; refine (err_any _ g A n c l a 0 wh (HR.out.drewN _)).mono ?_; rintro e w1 ⟨rfl, hr1, hg1⟩)
      go_ret2
      exact ⟨rfl, hr1, grown_q hg1⟩
  · rw [if_neg (by simp only; omega)]
    have hx1 : (((e0 : Nat) : Int) == 0) = false := by simp; omega
    go_enter Try.func20, Try.ntmps20
    go_wp2
    go_quiet (fail)
    go_wp2_with (go_at_call 24; refine (err_any _ g A n c l a e0 wh (HR.out.drewN _)).mono ?_; rintro e w1 ⟨rfl, hr1, hg1⟩)
    go_ret2
    exact ⟨rfl, hr1, grown_q hg1⟩
end Go.Proofs.Ytnloooakfhjggaa
