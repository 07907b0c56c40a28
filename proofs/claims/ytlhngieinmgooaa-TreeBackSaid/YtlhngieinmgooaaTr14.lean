/-
  Pages held against one another: slices.EqualFunc. A part of the proof: see the head of the text that ends in 'Law'.
-/
import Derived.Test.YtlhngieinmgooaaTr13
namespace Go.Proofs.Ytlhngieinmgooaa
open Go.RowKit
set_option linter.unusedVariables false
set_option maxRecDepth 100000
attribute [local go_sem] Oper.semAt_some

/-- Texts of octets in a row. -/
def PIn (W : World) (A : Option Addr) (ls : List (List UInt8)) : Prop := ∃ vs : List Value, vs.length = ls.length ∧ Row W A vs ∧ ∀ (j : Nat) (h1 : j < vs.length) (h2 : j < ls.length), ∃ B k c, vs[j] = .slice B k c ∧ k ≤ c ∧ Oct W B k ls[j]
theorem PIn.below {W W' : World} {A : Option Addr} {ls : List (List UInt8)} (h : PIn W A ls) (hb : Below W.heap.size W W') : PIn W' A ls := by
  obtain ⟨vs, h1, h2, h3⟩ := h
  refine ⟨vs, h1, h2.below hb, fun j k1 k2 => ?_⟩
  obtain ⟨B, k, c, e1, e2, e3⟩ := h3 j k1 k2
  exact ⟨B, k, c, e1, e2, e3.below hb⟩
theorem PIn.at_ {W : World} {A : Option Addr} {ls : List (List UInt8)} (h : PIn W A ls) (h0 : 0 < ls.length) : ∃ b off, A = some ⟨b, off, none⟩ ∧ ∀ (j : Nat) (hj : j < ls.length), ∃ B k c, W.cell? ⟨b, off + j, none⟩ = some (.slice B k c) ∧ k ≤ c ∧ Oct W B k ls[j] := by
  obtain ⟨vs, h1, h2, h3⟩ := h
  obtain ⟨b, off, hA, hc⟩ := h2 (by intro e; subst e; simp at h1; omega)
  refine ⟨b, off, hA, fun j hj => ?_⟩
  have hjv : j < vs.length := by omega
  obtain ⟨B, k, c, e1, e2, e3⟩ := h3 j hjv hj
  exact ⟨B, k, c, by rw [← e1]; exact hc j _ (List.getElem?_eq_getElem hjv), e2, e3⟩
theorem OutI.pin {b0 m c : Nat} {W : World} {A : Option Addr} {vs : List Value} {pgs : List (List UInt8)} (h : OutI b0 W A m c vs pgs) : PIn W A pgs := by
  refine ⟨vs, by rw [h.vl, h.pl], Row.of_own h.own, fun j h1 h2 => ?_⟩
  obtain ⟨A2, e1, e2⟩ := (h.rows j h1 h2).oct
  exact ⟨A2, 128, 128, e1, Nat.le_refl _, e2⟩
set_option maxHeartbeats 4000000 in
theorem eqfunc_any (A B : Option Addr) (n c m d : Nat) (ls ks : List (List UInt8)) (w : World) (hl : PIn w A ls) (hk : PIn w B ks) (hn : ls.length = n) (hm : ks.length = m) (hs : n ≤ 1000) :
    Calls Try.prog 28 #[.slice A n c, .slice B m d, .func (.func 29) #[] #[]] w fun e w' => e = .returned (.bool (decide (ls = ks))) ∧ w = w' := by
  have HL := hid hl
  have HK := hid hk
  have HN := hid hn
  have HM := hid hm
  clear hl hk hn hm
  by_cases hnm : n = m
  · subst hnm
    have g0 : ((n : Int) == (n : Int)) = true := by simp
    have I0 : Hid (ls.take 0 = ks.take 0) := hid rfl
    go_enter Try.func28, Try.ntmps28
    go_wp2_with fail
    go_loopw [17] (fun v17 wr => ∃ j : Nat, j ≤ n ∧ v17 = .int .i64 (j : Int) ∧ Hid (ls.take j = ks.take j) ∧ w = wr) (fun v17 wr => n - (intOf v17).toNat)
    case atStart => exact ⟨0, Nat.zero_le _, rfl, I0, rfl⟩
    case round =>
      clear I0
      obtain ⟨j, hj, rfl, HE, rfl⟩ := hrel
      by_cases hlt : j < n
      · have g1 := lt_t hlt
        have g1' := lt_nt hlt
        have q0 : (0 : Int) ≤ (j : Int) := by omega
        have q1 : (j : Int) < (n : Int) := by omega
        have q2 : (j : Int).toNat = j := by omega
        obtain ⟨b1, o1, rfl, r1⟩ := HL.out.at_ (by rw [HN.out]; omega)
        obtain ⟨b2, o2, rfl, r2⟩ := HK.out.at_ (by rw [HM.out]; omega)
        have hj1 : j < ls.length := by rw [HN.out]; exact hlt
        have hj2 : j < ks.length := by rw [HM.out]; exact hlt
        obtain ⟨B1, k1, d1, x1, -, p1⟩ := r1 j hj1
        obtain ⟨B2, k2, d2, x2, -, p2⟩ := r2 j hj2
        obtain ⟨t, ht⟩ : ∃ t, decide (ls[j] = ks[j]) = t := ⟨_, rfl⟩
        have HB := hid (beq_any B1 B2 k1 d1 k2 d2 ls[j] ks[j] w p1 p2)
        rw [ht] at HB
        have HST : Hid (ls.take (j + 1) = ks.take (j + 1) ↔ t = true) := hid (by
          rw [List.take_succ_eq_append_getElem hj1, List.take_succ_eq_append_getElem hj2, HE.out, ← ht, decide_eq_true_iff]
          constructor
          · intro h
            have := List.append_cancel_left h
            injection this
          · intro h
            rw [h])
        clear r1 r2 p1 p2 ht
        cases t with
        | true =>
          have HNX : Hid (ls.take (j + 1) = ks.take (j + 1)) := hid (HST.out.2 rfl)
          clear HST
          go_wp2_with (go_at_call 29; refine HB.out.mono ?_; rintro e w3 ⟨rfl, rfl⟩)
          go_roundw
          case rel => exact ⟨j + 1, by omega, by go_num, HNX, trivial⟩
          case measure => simp [intOf]; omega
        | false =>
          have HF : Hid (decide (ls = ks) = false) := hid (by
            rw [decide_eq_false_iff_not]
            intro h
            have := HST.out.1 (by rw [h])
            cases this)
          go_wp2_with (go_at_call 29; refine HB.out.mono ?_; rintro e w3 ⟨rfl, rfl⟩)
          go_ret
          exact ⟨by rw [HF.out]; rfl, rfl⟩
      · have g1 := lt_f hlt
        have g1' := lt_nf hlt
        have HF : Hid (decide (ls = ks) = true) := hid (by
          rw [decide_eq_true_iff]
          have h := HE.out
          rwa [List.take_of_length_le (by rw [HN.out]; omega), List.take_of_length_le (by rw [HM.out]; omega)] at h)
        go_wp2_with fail
        go_ret
        exact ⟨by rw [HF.out]; rfl, rfl⟩
  · have g0 : ((n : Int) == (m : Int)) = false := ne_f hnm
    have g0n : (n == m) = false := ne_n hnm
    have HF : Hid (decide (ls = ks) = false) := hid (by
      rw [decide_eq_false_iff_not]
      rintro rfl
      exact hnm (by rw [← HN.out, ← HM.out]))
    go_enter Try.func28, Try.ntmps28
    go_wp2_with fail
    go_ret
    exact ⟨by rw [HF.out]; rfl, rfl⟩
end Go.Proofs.Ytlhngieinmgooaa
