/-
  The law TreeReads: its walk. A part of the proof: see the head of the text that ends in 'Law'.
-/
import Derived.Test.YtlhngieinmgooaaTrAw
namespace Go.Proofs.Ytlhngieinmgooaa
open Go.RowKit
set_option linter.unusedVariables false
set_option maxRecDepth 100000
attribute [local go_sem] Oper.semAt_some

theorem pin_of (w : World) (A : Option Addr) (L : List Sl) (hr : Row w A (L.map Sl.v)) (hk : ∀ a ∈ L, Sl.ok w a) : PIn w A (L.map Sl.l) := by
  refine ⟨L.map Sl.v, by rw [List.length_map, List.length_map], hr, fun j h1 h2 => ?_⟩
  have hj : j < L.length := by rw [List.length_map] at h1; exact h1
  obtain ⟨k1, -, k3⟩ := hk L[j] (List.getElem_mem hj)
  exact ⟨L[j].A, L[j].n, L[j].c, by rw [List.getElem_map]; rfl, k1, by rw [List.getElem_map]; exact k3⟩
set_option maxHeartbeats 4000000 in
theorem walkTreeReads (A0 : Option Addr) (n0 c0 : Nat) (L0 : List Sl) (w : World) (hn0 : n0 ≤ c0) (hc0 : c0 ≤ maxLen) (hL0 : L0.length = n0) (hr0 : Row w A0 (L0.map Sl.v)) (hk0 : ∀ a ∈ L0, Sl.ok w a) :
    Calls Try.prog 4 #[.slice A0 n0 c0] w fun e w' => e = .returned (.bool true) ∧ Below w.heap.size w w' := by
  have hp := pin_of w A0 L0 hr0 hk0
  have hl : (L0.map Sl.l).length = n0 := by rw [List.length_map, hL0]
  obtain ⟨ls, hls⟩ : ∃ ls, L0.map Sl.l = ls := ⟨_, rfl⟩
  rw [hls] at hp hl
  have HPG := hid (lpages_any A0 n0 c0 ls w hp hl hn0)
  obtain ⟨ks, hks⟩ : ∃ ks, fewL ls = ks := ⟨_, rfl⟩
  have HSH : Hid (∀ l ∈ ks, l.length ≤ 130) := hid (by rw [← hks]; exact fewL_short ls)
  rw [hks] at HPG
  clear hp hl hls hks hr0 hk0 hL0
  have HAL := hid (fun (W : World) (A : Option Addr) (m c : Nat) (h1 : PIn W A ks) (h2 : ks.length = m) (h3 : m ≤ 99) => all_any A m c ks W h1 h2 h3)
  have HRA := hid (fun (W : World) (A : Option Addr) (m c : Nat) (h1 : Row W A (ks.map SV)) (h2 : ks.length = m) (h3 : m ≤ 99) => rall_any A m c ks W h1 h2 h3 HSH.out)
  cases hal : allP ks with
  | none =>
    have HA := hid (fun (W : World) (A : Option Addr) (m c : Nat) (h1 : PIn W A ks) (h2 : ks.length = m) (h3 : m ≤ 99) => (HAL.out W A m c h1 h2 h3).mono (R' := fun e w' => Below W.heap.size W w' ∧ e = .returned (.tuple #[.slice none 0 0, .int .i64 3])) (by
      rintro e w' ⟨k1, ⟨-, k2⟩ | ⟨l, A1, q, c1, k2, -⟩⟩
      · exact ⟨k1, k2⟩
      · rw [hal] at k2; cases k2))
    have HB := hid (fun (W : World) (A : Option Addr) (m c : Nat) (h1 : Row W A (ks.map SV)) (h2 : ks.length = m) (h3 : m ≤ 99) => (HRA.out W A m c h1 h2 h3).mono (R' := fun e w' => Below W.heap.size W w' ∧ e = .returned (.tuple #[.slice none 0 0, .bool false])) (by
      rintro e w' ⟨k1, ⟨-, k2⟩ | ⟨l, A1, q, c1, k2, -⟩⟩
      · exact ⟨k1, k2⟩
      · rw [hal] at k2; cases k2))
    clear HAL HRA hal
    go_enter Try.func4, Try.ntmps4
    go_wp2_with (first
      | (go_at_call 13; refine HPG.out.mono ?_; rintro e w1 ⟨b1, A1, c1, B1, d1, m, rfl, hm, h1, h2, h3⟩; have H1 := hid b1; have H2 := hid h1; have H3 := hid h2; have H4 := hid h3; clear b1 h1 h2 h3)
      | (go_at_call 14; refine (HA.out w1 A1 m c1 H3.out H2.out hm).mono ?_; rintro e w2 ⟨b2, rfl⟩; have H5 := hid b2; clear b2)
      | (go_at_call 15; refine (HB.out w2 B1 m d1 (H4.out.below H5.out) H2.out hm).mono ?_; rintro e w3 ⟨b3, rfl⟩; have H6 := hid b3; clear b3)
      | (go_at_call 12; refine (awake_any _).mono ?_; rintro e w4 ⟨rfl, b4⟩; have H7 := hid b4; clear b4))
    go_ret
    exact ⟨rfl, past (past (past H1.out H5.out) H6.out) H7.out⟩
  | some l =>
    have hlen : l.length ≤ 1000 := by
      unfold allP at hal
      split at hal
      · split at hal
        · rename_i hm
          injection hal with hal
          rw [← hal]
          have := hm.1
          unfold mayP at this
          simp only [Bool.and_eq_true, decide_eq_true_eq] at this
          omega
        · cases hal
      · cases hal
    have HA := hid (fun (W : World) (A : Option Addr) (m c : Nat) (h1 : PIn W A ks) (h2 : ks.length = m) (h3 : m ≤ 99) => (HAL.out W A m c h1 h2 h3).mono (R' := fun e w' => Below W.heap.size W w' ∧ ∃ A1 q c1, e = .returned (.tuple #[.slice A1 q c1, .int .i64 0]) ∧ l.length = q ∧ Row w' A1 (l.flatMap paC)) (by
      rintro e w' ⟨k1, ⟨k2, -⟩ | ⟨l', A1, q, c1, k2, k3, k4, k5⟩⟩
      · rw [hal] at k2; cases k2
      · rw [hal] at k2
        injection k2 with k2
        subst k2
        exact ⟨k1, A1, q, c1, k3, k4, k5⟩))
    have HB := hid (fun (W : World) (A : Option Addr) (m c : Nat) (h1 : Row W A (ks.map SV)) (h2 : ks.length = m) (h3 : m ≤ 99) => (HRA.out W A m c h1 h2 h3).mono (R' := fun e w' => Below W.heap.size W w' ∧ ∃ A1 q c1, e = .returned (.tuple #[.slice A1 q c1, .bool true]) ∧ l.length = q ∧ Row w' A1 (l.flatMap paC)) (by
      rintro e w' ⟨k1, ⟨k2, -⟩ | ⟨l', A1, q, c1, k2, k3, k4, k5⟩⟩
      · rw [hal] at k2; cases k2
      · rw [hal] at k2
        injection k2 with k2
        subst k2
        exact ⟨k1, A1, q, c1, k3, k4, k5⟩))
    clear HAL HRA hal
    go_enter Try.func4, Try.ntmps4
    go_wp2_with (first
      | (go_at_call 13; refine HPG.out.mono ?_; rintro e w1 ⟨b1, A1, c1, B1, d1, m, rfl, hm, h1, h2, h3⟩; have H1 := hid b1; have H2 := hid h1; have H3 := hid h2; have H4 := hid h3; clear b1 h1 h2 h3)
      | (go_at_call 14; refine (HA.out w1 A1 m c1 H3.out H2.out hm).mono ?_; rintro e w2 ⟨b2, A2, q2, c2, rfl, h2, r2⟩; have H5 := hid b2; have HL2 := hid h2; have HR2 := hid r2; clear b2 h2 r2)
      | (go_at_call 15; refine (HB.out w2 B1 m d1 (H4.out.below H5.out) H2.out hm).mono ?_; rintro e w3 ⟨b3, A3, q3, c3, rfl, h3, r3⟩; have H6 := hid b3; have HL3 := hid h3; have HR3 := hid r3; clear b3 h3 r3)
      | (go_at_call 16; refine (same_any A2 A3 q2 c2 q3 c3 l l w3 (HR2.out.below H6.out) HR3.out HL2.out HL3.out (by rw [← HL2.out]; exact hlen)).mono ?_; rintro e w4 ⟨he, b4⟩; (rw [show decide (l = l) = true by simp] at he); subst he; have H7 := hid b4; clear b4)
      | (go_at_call 12; refine (awake_any _).mono ?_; rintro e w5 ⟨rfl, b5⟩; have H8 := hid b5; clear b5))
    go_ret
    exact ⟨rfl, past (past (past (past H1.out H5.out) H6.out) H7.out) H8.out⟩
end Go.Proofs.Ytlhngieinmgooaa
