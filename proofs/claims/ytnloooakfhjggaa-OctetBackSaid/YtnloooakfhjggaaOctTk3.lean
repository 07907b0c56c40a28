/-
  The document's reader: Text and End, walked. A part of the proof: see the head of the text that ends in 'Law'.
-/
import Derived.Test.YtnloooakfhjggaaOctTk2
namespace Go.Proofs.Ytnloooakfhjggaa
open Go.RowKit
set_option linter.unusedVariables false

set_option maxHeartbeats 1000000 in
theorem ttext_any (w : World) (g : Nat) (l : List UInt8) (s : St) (hr : Tk w g l s) (hn : l.length ≤ 2147483648) (ha : s.at_ ≤ l.length) :
    Calls Try.prog 22 #[.pointer (some ⟨g, 0, none⟩)] w fun e w' => e = .returned (.string (str (textS l s).1)) ∧ Tk w' g l (textS l s).2 ∧ w.grownBy w' (some g) := by
  have hat := numS_at (l := l) (s := s) 2 ha
  have hv := numS_two l s
  obtain ⟨k0, k1, k2, k3, kf⟩ := hr.cells
  have HR := hid hr
  have hsz := str_size l
  clear hr kf
  have hstuck := hid (textS_stuck (l := l) (s := s))
  have hshort := hid (textS_short (l := l) (s := s))
  have hgood := hid (textS_good (l := l) (s := s))
  generalize hT : textS l s = T at *
  have hcall := hid (fun W (h : Tk W g l s) => tnum_any W g l s 2 h (by omega))
  generalize hN : numS l s 2 = N at *
  clear hN hT
  obtain ⟨v, a1, e1, wh1⟩ := N
  simp only at *
  have hw : IntKind.i64.wrap (v : Int) = v := by rw [IntKind.wrap_i64]; omega
  by_cases h0 : e1 = 0
  · subst h0
    by_cases h1 : (l.length : Int) - a1 < v
    · have h2 := hshort.out rfl h1
      subst h2
      have hd : decide ((l.length : Int) - a1 < v) = true := by simp; omega
      clear hshort hgood hstuck
      go_enter Try.func22, Try.ntmps22
      go_upto_region 3 with (go_at_call 21; refine (hcall.out _ HR.out).mono ?_; rintro e w1 ⟨rfl, hr1, hg1⟩; obtain ⟨m0, m1, m2, m3, mf⟩ := hr1.cells; simp only at m1 m2 m3; have HR1 := hid hr1; clear hr1 mf)
      go_quiet (fail)
      go_wp2_with (go_at_call 29; refine (wrong_any _ g l a1 wh1 2 s.at_ (HR1.out.drewN _)).mono ?_; rintro e w2 ⟨rfl, hr2, hg2⟩; obtain ⟨q0, q1, q2, q3, qf⟩ := hr2.cells; simp only at q1 q2 q3; have HR2 := hid hr2; clear hr2 qf)
      go_ret
      exact ⟨rfl, HR2.out, grown_trans hg1 (grown_q hg2)⟩
    · have h2 := hgood.out rfl h1
      subst h2
      have hd : decide ((l.length : Int) - a1 < v) = false := by simp; omega
      clear hshort hgood hstuck
      go_enter Try.func22, Try.ntmps22
      go_upto_region 3 with (go_at_call 21; refine (hcall.out _ HR.out).mono ?_; rintro e w1 ⟨rfl, hr1, hg1⟩; obtain ⟨m0, m1, m2, m3, mf⟩ := hr1.cells; simp only at m1 m2 m3; have HR1 := hid hr1; clear hr1 mf)
      go_quiet (fail)
      go_wp2_with (go_at_call 23; refine (traw_any _ g l ⟨a1, 0, wh1⟩ v (HR1.out.drewN _) hn (by simp only; omega)).mono ?_; rintro e w3 ⟨rfl, hr3, hg3⟩)
      go_ret
      exact ⟨rfl, hr3, grown_trans hg1 (grown_q hg3)⟩
  · have h2 := hstuck.out h0
    subst h2
    have hx1 : (((e1 : Nat) : Int) == 0) = false := by simp; omega
    clear hshort hgood hstuck
    go_enter Try.func22, Try.ntmps22
    go_upto_region 3 with (go_at_call 21; refine (hcall.out _ HR.out).mono ?_; rintro e w1 ⟨rfl, hr1, hg1⟩; obtain ⟨m0, m1, m2, m3, mf⟩ := hr1.cells; simp only at m1 m2 m3; have HR1 := hid hr1; clear hr1 mf)
    go_quiet (fail)
    go_wp2
    go_ret
    exact ⟨rfl, HR1.out.drewN _, grown_trans hg1 (grown_q (World.grownBy.refl _ _))⟩

theorem tend_any (w : World) (g : Nat) (l : List UInt8) (s : St) (hr : Tk w g l s) :
    Calls Try.prog 25 #[.pointer (some ⟨g, 0, none⟩)] w fun e w' => e = .returned (.tuple #[.int .i64 (endS l s).1, .int .i64 (endS l s).2]) ∧ Tk w' g l s ∧ w.grownBy w' none := by
  obtain ⟨a, e0, wh⟩ := s
  obtain ⟨k0, k1, k2, k3, kf⟩ := hr.cells
  have HR := hid hr
  have hsz := str_size l
  simp only at k1 k2 k3
  clear hr kf
  unfold endS
  simp only
  by_cases h0 : e0 = 0
  · subst h0
    by_cases h1 : a < l.length
    · rw [if_pos ⟨rfl, h1⟩]
      have hd : decide (a < l.length) = true := by simpa using h1
      have hd1 : decide ((a : Int) < l.length) = true := by simpa using h1
      go_enter Try.func25, Try.ntmps25
      go_wp2
      go_quiet (fail)
      go_wp2
      go_quiet (fail)
      go_wp2
      go_ret2
      exact ⟨rfl, (HR.out.drewN _).drewN _, grown_q (grown_q (World.grownBy.refl _ _))⟩
    · rw [if_neg (by omega)]
      have hd : decide (a < l.length) = false := by simpa using h1
      have hd1 : decide ((a : Int) < l.length) = false := by simpa using h1
      go_enter Try.func25, Try.ntmps25
      go_wp2
      go_quiet (fail)
      go_wp2
      go_quiet (fail)
      go_wp2
      go_ret2
      exact ⟨rfl, (HR.out.drewN _).drewN _, grown_q (grown_q (World.grownBy.refl _ _))⟩
  · rw [if_neg (by omega)]
    have hx1 : (((e0 : Nat) : Int) == 0) = false := by simp; omega
    go_enter Try.func25, Try.ntmps25
    go_wp2
    go_quiet (fail)
    go_wp2
    go_quiet (fail)
    go_wp2
    go_ret2
    exact ⟨rfl, (HR.out.drewN _).drewN _, grown_q (grown_q (World.grownBy.refl _ _))⟩
end Go.Proofs.Ytnloooakfhjggaa
