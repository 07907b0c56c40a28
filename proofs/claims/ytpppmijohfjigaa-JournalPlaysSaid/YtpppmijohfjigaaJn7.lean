/-
  journal.all walked: steps are done, till one fails. A part of the proof: see the head of the text that ends in 'Law'.
-/
import Derived.Test.YtpppmijohfjigaaJn6
namespace Go.Proofs.Ytpppmijohfjigaa
open Go.RowKit
set_option linter.unusedVariables false
set_option maxRecDepth 100000
attribute [local go_sem] Oper.semAt_some

/-- Steps in a row of one's own. -/
structure StepsV (d hb : Nat) (W : World) (vs : List Value) (ss : List Stp) : Prop where
  len : vs.length = ss.length
  one : ∀ (j : Nat) (h1 : j < vs.length) (h2 : j < ss.length), StepV d hb W (vs[j]'h1) (ss[j]'h2)
theorem StepsV.below {d hb : Nat} {W w' : World} {vs : List Value} {ss : List Stp} (h : StepsV d hb W vs ss) (hb' : Below W.heap.size W w') : StepsV d hb w' vs ss := ⟨h.len, fun j h1 h2 => (h.one j h1 h2).below hb'⟩
theorem StepsV.lets {w0 : World} {d hb : Nat} {D : Dsk} {W w' : World} {vs : List Value} {ss : List Stp} (h : StepsV d hb W vs ss) (hS : St w0 W d hb D) (hL : Lets d hb W w') : StepsV d hb w' vs ss := ⟨h.len, fun j h1 h2 => (h.one j h1 h2).lets hS hL⟩
theorem StepsV.keepF {d hb : Nat} {W w' : World} {vs : List Value} {ss : List Stp} (h : StepsV d hb W vs ss) (hk : KeepF W w') : StepsV d hb w' vs ss := ⟨h.len, fun j h1 h2 => (h.one j h1 h2).keepF hk⟩
theorem StepsV.nil (d hb : Nat) (W : World) : StepsV d hb W [] [] := ⟨rfl, fun j h1 => absurd h1 (Nat.not_lt_zero _)⟩
theorem StepsV.append {d hb : Nat} {W : World} {vs us : List Value} {ss ts : List Stp} (h : StepsV d hb W vs ss) (k : StepsV d hb W us ts) : StepsV d hb W (vs ++ us) (ss ++ ts) := by
  refine ⟨by rw [List.length_append, List.length_append, h.len, k.len], fun j h1 h2 => ?_⟩
  have hl := h.len
  rcases Nat.lt_or_ge j vs.length with h3 | h3
  · rw [List.getElem_append_left h3, List.getElem_append_left (by omega)]
    exact h.one j h3 (by omega)
  · rw [List.getElem_append_right h3, List.getElem_append_right (by omega)]
    have e : j - vs.length = j - ss.length := by omega
    have h4 : j - vs.length < us.length := by rw [List.length_append] at h1; omega
    have h5 : j - ss.length < ts.length := by rw [List.length_append] at h2; omega
    have := k.one (j - vs.length) h4 (by rw [e]; exact h5)
    simp only [e] at this ⊢
    exact this
theorem StepsV.single {d hb : Nat} {W : World} {v : Value} {s : Stp} (h : StepV d hb W v s) : StepsV d hb W [v] [s] := ⟨rfl, fun j h1 h2 => by
  obtain rfl : j = 0 := by simp at h1; exact h1
  exact h⟩
/-- What a run of steps leaves. -/
def RunP (w0 W : World) (d hb : Nat) (r : Dsk × Nat) (e : Ending) (w' : World) : Prop := e = .returned (.int .i64 (r.2 : Int)) ∧ St w0 w' d hb r.1 ∧ Lets d hb W w'
theorem stepOk (D : Dsk) (s : Stp) : (stepD D s).2 = 0 ∨ 0 < (stepD D s).2 := Nat.eq_zero_or_pos _
theorem lets_row {w0 W W' : World} {d hb : Nat} {D : Dsk} {A : Option Addr} {xs : List Value} {e : TypeId} {n c b0 : Nat} (hr : W.ownsRow b0 e 1 (.slice A n c) n xs) (h : St w0 W d hb D) (hL : Lets d hb W W') (h1 : e ≠ 94) (h2 : e ≠ 99) (h3 : e ≠ 101) : W'.ownsRow b0 e 1 (.slice A n c) n xs :=
  own_lets_ty hr h hL h1 h2 h3
theorem step_call {w0 W : World} {d hb : Nat} {D : Dsk} {v : Value} {s : Stp} (h : St w0 W d hb D) (hv : StepV d hb W v s) (hw : D.waits.length ≤ 100000) :
    (v = flF d ∧ Calls Try.prog 21 #[.pointer (some ⟨d, 0, none⟩)] W fun e w' => e = .returned (.int .i64 ((stepD D s).2 : Int)) ∧ St w0 w' d hb (stepD D s).1 ∧ Lets d hb W w') ∨
    (∃ b1 b2 b3, v = wrF b1 b2 b3 ∧ Calls Try.prog 74 #[.pointer (some ⟨b1, 0, none⟩), .pointer (some ⟨b2, 0, none⟩), .pointer (some ⟨b3, 0, none⟩)] W fun e w' => e = .returned (.int .i64 ((stepD D s).2 : Int)) ∧ St w0 w' d hb (stepD D s).1 ∧ Lets d hb W w') := by
  cases s with
  | fl => exact .inl ⟨hv, flush_st h hw⟩
  | wr i t =>
    obtain ⟨h0, b1, b2, b3, A, c, hv, h1, h2, h3, h4, h5⟩ := hv
    exact .inr ⟨b1, b2, b3, hv, jclo_any h b1 b2 b3 i A c t h1 h2 h3 h4 h5 hw⟩
set_option maxHeartbeats 8000000 in
theorem all_run {w0 W : World} {d hb : Nat} {D : Dsk} (h : St w0 W d hb D) (A : Option Addr) (n c b0 : Nat) (vs : List Value) (ss : List Stp) (hr : W.ownsRow b0 54 1 (.slice A n c) n vs) (hv : StepsV d hb W vs ss) (hw : D.waits.length + n ≤ 100000) :
    Calls Try.prog 48 #[.slice A n c] W (RunP w0 W d hb (runD ss D)) := by
  have hn : vs.length = n := by have := hr.1; omega
  have HN := hid hn
  have HS := hid (show ss.length = n by rw [← hv.len, hn])
  have HR := hid hr
  have HV := hid hv
  have HWW := hid hw
  have I0 : Hid (∃ D', runD ss D = runD (ss.drop 0) D' ∧ St w0 W d hb D' ∧ Lets d hb W W ∧ D'.waits.length ≤ D.waits.length + 0) := hid ⟨D, rfl, h, Lets.refl _ _ _, Nat.le_refl _⟩
  have HST := hid h
  have hn5 : n ≤ 100000 := by omega
  clear hn hr hv hw h
  go_enter Try.func48, Try.ntmps48
  go_wp2_with fail
  go_loopw [8] (fun v8 wr => ∃ j : Nat, j ≤ n ∧ v8 = .int .i64 (j : Int) ∧ Hid (∃ D', runD ss D = runD (ss.drop j) D' ∧ St w0 wr d hb D' ∧ Lets d hb W wr ∧ D'.waits.length ≤ D.waits.length + j)) (fun v8 wr => n - (intOf v8).toNat)
  case atStart => exact ⟨0, Nat.zero_le _, rfl, I0⟩
  case round =>
    clear I0
    obtain ⟨j, hj, rfl, HI⟩ := hrel
    rename World => wr
    by_cases hlt : j < n
    · have e1 := lt_t hlt
      have e1n := lt_nt hlt
      have j0 : (0 : Int) ≤ (j : Int) := by omega
      have j1 : (j : Int) < (n : Int) := by omega
      have j2 : (j : Int).toNat = j := by omega
      have hjv : j < vs.length := by rw [HN.out]; exact hlt
      have hjs : j < ss.length := by rw [HS.out]; exact hlt
      obtain ⟨D', q1, q2, q3, q4⟩ := HI.out
      have hrw := Row.of_own (lets_row HR.out HST.out q3 (by decide) (by decide) (by decide))
      obtain ⟨b, off, rfl, hc⟩ := hrw (by intro e; rw [e] at hjv; cases hjv)
      have x0 := hc j _ (List.getElem?_eq_getElem hjv)
      have hsv := (HV.out.lets HST.out q3).one j hjv hjs
      obtain ⟨v, hve⟩ : ∃ v, vs[j] = v := ⟨_, rfl⟩
      obtain ⟨s, hse⟩ : ∃ s, ss[j] = s := ⟨_, rfl⟩
      rw [hve] at x0 hsv
      rw [hse] at hsv
      have hdr : ss.drop j = s :: ss.drop (j + 1) := by rw [List.drop_eq_getElem_cons hjs, hse]
      rw [hdr, runD] at q1
      have Q1 := hid q1
      have Q2 := hid q2
      have Q3 := hid q3
      have Q4 := hid q4
      have hw5 : D'.waits.length ≤ 100000 := by have := HWW.out; omega
      have HW1 := hid (step_waits D' s)
      clear hc hrw hve hse hdr q1 q2 q3 q4 hjv hjs HI
      obtain ⟨m, hm⟩ : ∃ m, (stepD D' s).2 = m := ⟨_, rfl⟩
      obtain ⟨D2, hD2⟩ : ∃ D2, (stepD D' s).1 = D2 := ⟨_, rfl⟩
      have HM := hid hm
      have HD2 := hid hD2
      have hor := step_call Q2.out hsv hw5
      rw [hm, hD2] at hor
      have HRS : Hid (m = 0 → runD ss D = runD (ss.drop (j + 1)) D2) := hid (fun e => by rw [Q1.out, HM.out, if_pos e, HD2.out])
      have HRF : Hid (m ≠ 0 → runD ss D = (D2, m)) := hid (fun e => by rw [Q1.out, HM.out, if_neg e, ← HM.out, ← HD2.out])
      have HW2 : Hid (D2.waits.length ≤ D.waits.length + (j + 1)) := hid (by have h1 := HW1.out; have h2 := Q4.out; rw [HD2.out] at h1; omega)
      clear hsv hm hD2 Q1 HM HD2 hw5 HW1 Q4
      rcases hor with ⟨rfl, hcl⟩ | ⟨b1, b2, b3, rfl, hcl⟩
      · have HCL := hid hcl
        unfold flF at x0
        clear hcl
        by_cases hm0 : m = 0
        · have HR0 := hid (HRS.out hm0)
          clear HRS HRF
          subst hm0
          go_wp2_with (go_at_call 21; refine HCL.out.mono ?_; rintro e w2 ⟨rfl, k1, k2⟩; have HK1 := hid k1; have HK2 := hid k2; clear k1 k2)
          go_roundw
          case rel => exact ⟨j + 1, by omega, by go_num, hid ⟨D2, HR0.out, HK1.out, Q3.out.trans HK2.out, HW2.out⟩⟩
          case measure => simp [intOf]; omega
        · have g1 : ((m : Int) != 0) = true := by rw [bne_iff_ne]; omega
          have g1n : (m != 0) = true := by rw [bne_iff_ne]; exact hm0
          have HF := hid (HRF.out hm0)
          clear HRF HRS
          go_wp2_with (go_at_call 21; refine HCL.out.mono ?_; rintro e w2 ⟨rfl, k1, k2⟩; have HK1 := hid k1; have HK2 := hid k2; clear k1 k2)
          go_ret
          unfold RunP
          rw [HF.out]
          exact ⟨rfl, HK1.out, Q3.out.trans HK2.out⟩
      · have HCL := hid hcl
        unfold wrF at x0
        clear hcl
        by_cases hm0 : m = 0
        · have HR0 := hid (HRS.out hm0)
          clear HRS HRF
          subst hm0
          go_wp2_with (go_at_call 74; refine HCL.out.mono ?_; rintro e w2 ⟨rfl, k1, k2⟩; have HK1 := hid k1; have HK2 := hid k2; clear k1 k2)
          go_roundw
          case rel => exact ⟨j + 1, by omega, by go_num, hid ⟨D2, HR0.out, HK1.out, Q3.out.trans HK2.out, HW2.out⟩⟩
          case measure => simp [intOf]; omega
        · have g1 : ((m : Int) != 0) = true := by rw [bne_iff_ne]; omega
          have g1n : (m != 0) = true := by rw [bne_iff_ne]; exact hm0
          have HF := hid (HRF.out hm0)
          clear HRF HRS
          go_wp2_with (go_at_call 74; refine HCL.out.mono ?_; rintro e w2 ⟨rfl, k1, k2⟩; have HK1 := hid k1; have HK2 := hid k2; clear k1 k2)
          go_ret
          unfold RunP
          rw [HF.out]
          exact ⟨rfl, HK1.out, Q3.out.trans HK2.out⟩
    · have e1 := lt_f hlt
      have e1n := lt_nf hlt
      obtain ⟨D', q1, q2, q3, q4⟩ := HI.out
      have HF : Hid (runD ss D = (D', 0)) := hid (by rw [q1, List.drop_of_length_le (by rw [HS.out]; omega)]; rfl)
      have Q2 := hid q2
      have Q3 := hid q3
      clear q1 q2 q3 q4 HI
      go_wp2_with fail
      go_ret
      unfold RunP
      rw [HF.out]
      exact ⟨rfl, Q2.out, Q3.out⟩
end Go.Proofs.Ytpppmijohfjigaa
