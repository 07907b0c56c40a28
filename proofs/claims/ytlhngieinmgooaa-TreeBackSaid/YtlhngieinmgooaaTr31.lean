/-
  The law TreeBuilds: its walk. A part of the proof: see the head of the text that ends in 'Law'.
-/
import Derived.Test.YtlhngieinmgooaaTr30
namespace Go.Proofs.Ytlhngieinmgooaa
open Go.RowKit
set_option linter.unusedVariables false
set_option linter.unusedSimpArgs false
set_option maxRecDepth 100000
attribute [local go_sem] Oper.semAt_some

theorem pagesI_some (k : Nat) (h : k ≤ 600) : (pagesI (k : Int)) = (buildP (someP k)).length := by
  unfold pagesI
  rw [if_neg (by omega), Int.toNat_natCast, build_len]
  congr 1 <;> (unfold someP; rw [List.length_map, List.length_range])
theorem someP_ok (k : Nat) (h : k ≤ 1000) : ∀ p ∈ someP k, p.ok := by
  intro p hp
  obtain ⟨i, hi, rfl⟩ := List.mem_map.1 hp
  rw [List.mem_range] at hi
  exact ⟨by show i + 1 < _; omega, by show 3 * (i + 1) < _; omega⟩
theorem pagesI_len (l : List Pa) (hm : mayP l = true) (n : Nat) (hn : l.length = n) : (pagesI (n : Int)) = (buildP l).length := by
  unfold mayP at hm
  simp only [Bool.and_eq_true, decide_eq_true_eq] at hm
  unfold pagesI
  rw [if_neg (by omega), Int.toNat_natCast, build_len, hn]
set_option maxHeartbeats 8000000 in
theorem walkTreeBuilds (A0 : Option Addr) (n0 c0 : Nat) (l0 : List Pa) (x1 : Int) (w : World) (hn0 : n0 ≤ c0) (hc0 : c0 ≤ maxLen) (hl0 : l0.length = n0) (hr0 : Row w A0 (l0.flatMap paC)) (hk0 : ∀ p ∈ l0, p.ok) (hx1 : -9223372036854775808 ≤ x1 ∧ x1 ≤ 9223372036854775807) :
    Calls Try.prog 3 #[.slice A0 n0 c0, .int .i64 x1] w fun e w' => e = .returned (.bool true) ∧ Below w.heap.size w w' := by
  have HFW := hid (few_any A0 n0 c0 l0 w hr0 hl0 hn0)
  obtain ⟨l, hl⟩ : ∃ l, l0.take 601 = l := ⟨_, rfl⟩
  have hok : ∀ p ∈ l, p.ok := fun p hp => hk0 p (List.mem_of_mem_take (hl ▸ hp))
  have hl601 : l.length ≤ 601 := by rw [← hl, List.length_take]; omega
  rw [hl] at HFW
  have HOK := hid hok
  have HL6 := hid hl601
  have HBD := hid (fun (W : World) (A : Option Addr) (n c : Nat) (hr : Row W A (l.flatMap paC)) (hn : l.length = n) (hc : n ≤ c) => build_any A n c l W hr hn hc (by omega) hok)
  have HRB := hid (fun (W : World) (A : Option Addr) (n c : Nat) (hr : Row W A (l.flatMap paC)) (hn : l.length = n) => rbuild_any A n c l W hr hn (by omega) hok)
  have HMY := hid (fun (W : World) (A : Option Addr) (n c : Nat) (hr : Row W A (l.flatMap paC)) (hn : l.length = n) => rmay_any A n c l W hr hn (by omega))
  obtain ⟨pn, hpn⟩ : ∃ pn, pagesI x1 = pn := ⟨_, rfl⟩
  have HPX := hid (fun W : World => (show Calls Try.prog 10 #[.int .i64 x1] W (fun e w' => e = .returned (.int .i64 (pn : Int)) ∧ W = w') from by rw [← hpn]; exact pages_any x1 W hx1))
  have HPN := hid hpn
  clear hl hok hl601 hr0 hl0 hk0 hpn
  obtain ⟨tb, htb⟩ : ∃ tb, (decide (0 ≤ x1) && decide (x1 ≤ 600)) = tb := ⟨_, rfl⟩
  have HTB := hid htb
  clear htb
  obtain ⟨mb, hmb⟩ : ∃ mb, mayP l = mb := ⟨_, rfl⟩
  have HMB := hid hmb
  rw [hmb] at HMY
  have HBX := hid (fun (W : World) (A : Option Addr) (n c : Nat) (hr : Row W A (l.flatMap paC)) (hn : l.length = n) (hc : n ≤ c) => (HBD.out W A n c hr hn hc).mono (R' := fun e w' => Below W.heap.size W w' ∧ ∃ A3 m3 c3, e = .returned (.tuple #[.slice A3 m3 c3, .int .i64 (if mb = true then 0 else 1)]) ∧ (mb = false → m3 = 0) ∧ (mb = true → PIn w' A3 (buildP l) ∧ (buildP l).length = m3)) (by
    rintro e w' ⟨k1, ⟨k2, k3⟩ | ⟨k2, A3, m3, c3, vs, k3, k4⟩⟩
    · rw [hmb] at k2
      subst k2
      exact ⟨k1, none, 0, 0, k3, fun _ => rfl, fun h => by cases h⟩
    · rw [hmb] at k2
      subst k2
      exact ⟨k1, A3, m3, c3, k3, fun h => by (cases h), fun _ => ⟨k4.pin, k4.pl⟩⟩))
  clear HBD hmb
  obtain ⟨ec, hec⟩ : ∃ ec : Int, (if mb = true then 0 else 1) = ec := ⟨_, rfl⟩
  rw [hec] at HBX
  have HEC := hid hec
  clear hec
  go_enter Try.func3, Try.ntmps3
  go_upto_region 4 with (first
    | (go_at_call 6; refine HFW.out.mono ?_; rintro e w1 ⟨rfl, n, c, rfl, hnc, h1, h2⟩; have H1 := hid h1; have H2 := hid h2; clear h1 h2)
    | (go_at_call 7; refine (HBX.out _ A0 n c H2.out H1.out hnc).mono ?_; rintro e w2 ⟨b2, A3, m3, c3, rfl, h3, h4⟩; have H3 := hid b2; have H4 := hid h3; have H5 := hid h4; clear b2 h3 h4))
  go_cut [22] (fun t wx => t = .bool tb ∧ w2 = wx)
  case first =>
    by_cases h0 : 0 ≤ x1
    · have g0 : decide ((0 : Int) ≤ x1) = true := by simpa using h0
      by_cases h6 : x1 ≤ 600
      · have g6 : decide (x1 ≤ (600 : Int)) = true := by simpa using h6
        have HT2 : Hid (tb = true) := hid (by rw [← HTB.out, g0, g6]; try rfl)
        go_wp2_with fail
        go_meet
        exact ⟨by rw [HT2.out], rfl⟩
      · have g6 : decide (x1 ≤ (600 : Int)) = false := by simpa using h6
        have HT2 : Hid (tb = false) := hid (by rw [← HTB.out, g0, g6]; try rfl)
        go_wp2_with fail
        go_meet
        exact ⟨by rw [HT2.out], rfl⟩
    · have g0 : decide ((0 : Int) ≤ x1) = false := by simpa using h0
      have HT2 : Hid (tb = false) := hid (by rw [← HTB.out, g0]; try rfl)
      go_wp2_with fail
      go_meet
      exact ⟨by rw [HT2.out], rfl⟩
  case rest =>
  obtain ⟨rfl, rfl⟩ := hcut
  go_upto_if 22 with fail
  go_cut [7] (fun s7 wx => s7 = .int .i64 (pn : Int) ∧ Hid (Below w2.heap.size w2 wx))
  case first =>
    cases tb with
    | true =>
      have htb := HTB.out
      simp only [Bool.and_eq_true, decide_eq_true_eq] at htb
      obtain ⟨k, rfl⟩ := Int.eq_ofNat_of_zero_le htb.1
      have hk : k ≤ 600 := by omega
      have HSO := hid (fun W : World => some_any k W (by omega))
      have HSB := hid (fun (W : World) (A : Option Addr) (c : Nat) (hr : Row W A ((someP k).flatMap paC)) => rbuild_any A k c (someP k) W hr (by unfold someP; rw [List.length_map, List.length_range]) (by omega) (someP_ok k (by omega)))
      have HPL : Hid ((buildP (someP k)).length = pn) := hid (by rw [← HPN.out, pagesI_some k hk])
      clear htb
      go_wp2_with (first
        | (go_at_call 9; refine (HSO.out _).mono ?_; rintro e w3 ⟨A5, c5, rfl, o5, b5⟩; have H6 := hid b5; have H7 := hid (Row.of_own o5); clear o5 b5)
        | (go_at_call 8; refine (HSB.out _ A5 c5 H7.out).mono ?_; rintro e w4 ⟨b6, A6, m6, c6, rfl, h6, -⟩; have H8 := hid (past H6.out b6); obtain rfl : m6 = pn := (by rw [← h6, HPL.out]); clear b6 h6))
      go_meet
      exact ⟨rfl, H8⟩
    | false =>
      have HP0 : Hid (pn = 0) := hid (by
        rw [← HPN.out]
        unfold pagesI
        rw [if_pos]
        have htb := HTB.out
        rcases Int.lt_or_le x1 0 with h | h
        · exact .inl h
        · right
          rw [decide_eq_true h, Bool.true_and, decide_eq_false_iff_not] at htb
          omega)
      go_wp2_with fail
      go_meet
      exact ⟨by rw [HP0.out]; rfl, hid (Below.refl _ _)⟩
  case rest =>
  obtain ⟨rfl, HBX2⟩ := hcut
  rename World => wv
  have hpne : ((pn : Int) != (pn : Int)) = false := by simp
  have HRV := hid (H2.out.below (past H3.out HBX2.out))
  have HBV := hid (past H3.out HBX2.out)
  cases mb with
  | false =>
    have he : ec = 1 := by rw [← HEC.out]; rfl
    subst he
    have hm0 : m3 = 0 := H4.out rfl
    subst hm0
    go_wp2_with (first
      | (go_at_call 10; refine (HPX.out _).mono ?_; rintro e w5 ⟨rfl, rfl⟩)
      | (go_at_call 11; refine (HMY.out _ A0 n c HRV.out H1.out).mono ?_; rintro e w6 ⟨rfl, b6⟩; have H9 := hid (past HBV.out b6); clear b6)
      | (go_at_call 12; refine (awake_any _).mono ?_; rintro e w7 ⟨rfl, b7⟩; have HA := hid (past H9.out b7); clear b7))
    go_ret
    exact ⟨rfl, HA.out⟩
  | true =>
    have he : ec = 0 := by rw [← HEC.out]; rfl
    subst he
    obtain ⟨hpin, hpl⟩ := H5.out rfl
    have HPI := hid hpin
    have HPL := hid hpl
    have HPQ := hid (fun W : World => (show Calls Try.prog 10 #[.int .i64 (n : Int)] W (fun e w' => e = .returned (.int .i64 (m3 : Int)) ∧ W = w') from by
      have := pages_any (n : Int) W (by have := HL6.out; have := H1.out; omega)
      rw [pagesI_len l HMB.out n H1.out, hpl] at this
      exact this))
    have hlb : m3 ≤ 1000 := by
      have h1 := HMB.out
      unfold mayP at h1
      simp only [Bool.and_eq_true, decide_eq_true_eq] at h1
      have h2 := above7_le _ h1.2
      have h3 := pagesF_le (aboveN l.length 7) (aboveN l.length 7)
      rw [← hpl, build_len]
      omega
    have hm3 : ((m3 : Int) != (m3 : Int)) = false := by simp
    obtain ⟨os, hos⟩ : ∃ os, buildP l = os := ⟨_, rfl⟩
    rw [hos] at HPI HPL HRB
    clear hpin hpl hos H4 H5
    go_wp2_with (first
      | (go_at_call 10; (with_reducible refine (HPX.out _).mono ?_); rintro e w5 ⟨rfl, rfl⟩)
      | (go_at_call 11; refine (HMY.out _ A0 n c HRV.out H1.out).mono ?_; rintro e w6 ⟨rfl, b6⟩; have H9 := hid (past HBV.out b6); have HRW := hid (HRV.out.below b6); have HW6 := hid (past HBX2.out b6); clear b6)
      | (go_at_call 8; refine (HRB.out _ A0 n c HRW.out H1.out).mono ?_; rintro e w7 ⟨b7, A7, m7, c7, rfl, h7, o7⟩; have HA := hid (past H9.out b7); have HW7 := hid (past HW6.out b7); obtain rfl : m3 = m7 := (by rw [← h7, HPL.out]); have HR7 := hid (Row.of_own o7); clear b7 h7 o7)
      | (go_at_call 10; (with_reducible refine (HPQ.out _).mono ?_); rintro e w8 ⟨rfl, rfl⟩))
    go_loopw [9] (fun v9 wz => ∃ k : Nat, k ≤ m3 ∧ v9 = .int .i64 (k : Int) ∧ Hid (Below w7.heap.size w7 wz)) (fun v9 wz => m3 - (intOf v9).toNat)
    case atStart => exact ⟨0, Nat.zero_le _, rfl, hid (Below.refl _ _)⟩
    case round =>
      obtain ⟨k, hk, rfl, HBK⟩ := hrel
      rename World => wz
      by_cases hlt2 : k < m3
      · have e1 := lt_t hlt2
        have e1n := lt_nt hlt2
        have k0 : (0 : Int) ≤ (k : Int) := by omega
        have k1 : (k : Int) < (m3 : Int) := by omega
        have k2 : (k : Int).toNat = k := by omega
        have hk1 : k < os.length := by rw [HPL.out]; exact hlt2
        obtain ⟨bx, ox, rfl, rx⟩ := sv_at HR7.out hk1
        obtain ⟨by_, oy, rfl, ry⟩ := HPI.out.at_ (by omega)
        obtain ⟨B, kk, dd, ry1, ry2, ry3⟩ := ry k hk1
        have hbz := past HW7.out HBK.out
        have hx := cells_keep HBK.out (rx k hk1)
        have hy := cells_keep hbz ry1
        obtain ⟨x, hxe⟩ : ∃ x, os[k] = x := ⟨_, rfl⟩
        rw [hxe] at hx ry3
        have hcv := strP dd (ry3.below hbz).drew
        have hne := str_ne (a := x) rfl
        have hbe : (x == x) = true := by rw [beq_iff_eq]
        have h0 : wz.drew.cell? ⟨bx, ox + k, none⟩ = some (.string (str x)) ∧ wz.drew.cell? ⟨by_, oy + k, none⟩ = some (.slice B kk dd) := ⟨hx, hy⟩
        clear rx ry ry1 ry2 ry3 hbz hxe hk1 hx hy
        go_upto_region 16 with fail
        refine wp_region_noPanic ?_
        refine wp_region_held_drew (S := (fun W => W.cell? ⟨bx, ox + k, none⟩ = some (.string (str x)) ∧ W.cell? ⟨by_, oy + k, none⟩ = some (.slice B kk dd))) (by kernel_rfl) (by first | assumption | trivial) (fun hHeld => ?_)
        refine wpAnyH_take (i := 0) (v := ?_) rfl (by kernel_rfl) (by kernel_rfl) (by kernel_rfl) (fun _ _ _ h => h) (Or.inl ⟨by kernel_rfl, ?_⟩) (by first | assumption | trivial) ?_
        rotate_left
        · (intro wS hSw; (try dsimp only at hSw); go_simp; try with_reducible rfl)
        (try simp only [List.append_eq, List.cons_append, List.nil_append, List.getElem_toArray, List.getElem_cons_succ, List.getElem_cons_zero, Act.put, List.setIfInBounds_toArray, List.set_cons_zero, List.set_cons_succ])
        refine wpAnyH_take (i := 1) (v := ?_) rfl (by kernel_rfl) (by kernel_rfl) (by kernel_rfl) (fun _ _ _ h => h) (Or.inl ⟨by kernel_rfl, ?_⟩) (by first | assumption | trivial) ?_
        rotate_left
        · (intro wS hSw; (try dsimp only at hSw); go_simp; try with_reducible rfl)
        (try simp only [List.append_eq, List.cons_append, List.nil_append, List.getElem_toArray, List.getElem_cons_succ, List.getElem_cons_zero, Act.put, List.setIfInBounds_toArray, List.set_cons_zero, List.set_cons_succ])
        refine wpAnyH_take (i := 2) (v := ?_) rfl (by kernel_rfl) (by kernel_rfl) (by kernel_rfl) (fun _ _ _ h => h) (Or.inl ⟨by kernel_rfl, ?_⟩) (by first | assumption | trivial) ?_
        rotate_left
        · (intro wS hSw; (try dsimp only at hSw); go_simp; try with_reducible rfl)
        (try simp only [List.append_eq, List.cons_append, List.nil_append, List.getElem_toArray, List.getElem_cons_succ, List.getElem_cons_zero, Act.put, List.setIfInBounds_toArray, List.set_cons_zero, List.set_cons_succ])
        refine wpAnyH_take (i := 3) (v := ?_) rfl (by kernel_rfl) (by kernel_rfl) (by kernel_rfl) (fun _ _ _ h => h) (Or.inl ⟨by kernel_rfl, ?_⟩) (by first | assumption | trivial) ?_
        rotate_left
        · (intro wS hSw; (try dsimp only at hSw); go_simp; try with_reducible rfl)
        (try simp only [List.append_eq, List.cons_append, List.nil_append, List.getElem_toArray, List.getElem_cons_succ, List.getElem_cons_zero, Act.put, List.setIfInBounds_toArray, List.set_cons_zero, List.set_cons_succ])
        refine wpAnyH_take (i := 5) (v := ?_) rfl (by kernel_rfl) (by kernel_rfl) (by kernel_rfl) (fun _ _ _ h => h) (Or.inl ⟨by kernel_rfl, ?_⟩) (by first | assumption | trivial) ?_
        rotate_left
        · (intro wS hSw; (try dsimp only at hSw); go_simp; try with_reducible rfl)
        (try simp only [List.append_eq, List.cons_append, List.nil_append, List.getElem_toArray, List.getElem_cons_succ, List.getElem_cons_zero, Act.put, List.setIfInBounds_toArray, List.set_cons_zero, List.set_cons_succ])
        refine wpAnyH_take (i := 6) (v := ?_) rfl (by kernel_rfl) (by kernel_rfl) (by kernel_rfl) (fun _ _ _ h => h) (Or.inl ⟨by kernel_rfl, ?_⟩) (by first | assumption | trivial) ?_
        rotate_left
        · (intro wS hSw; (try dsimp only at hSw); go_simp; try with_reducible rfl)
        (try simp only [List.append_eq, List.cons_append, List.nil_append, List.getElem_toArray, List.getElem_cons_succ, List.getElem_cons_zero, Act.put, List.setIfInBounds_toArray, List.set_cons_zero, List.set_cons_succ])
        refine wpAnyH_take (i := 7) (v := ?_) rfl (by kernel_rfl) (by kernel_rfl) (by kernel_rfl) (fun _ _ _ h => h) (Or.inl ⟨by kernel_rfl, ?_⟩) (by first | assumption | trivial) ?_
        rotate_left
        · (intro wS hSw; (try dsimp only at hSw); go_simp; try with_reducible rfl)
        (try simp only [List.append_eq, List.cons_append, List.nil_append, List.getElem_toArray, List.getElem_cons_succ, List.getElem_cons_zero, Act.put, List.setIfInBounds_toArray, List.set_cons_zero, List.set_cons_succ])
        refine wpAnyH_take (i := 8) (v := ?_) rfl (by kernel_rfl) (by kernel_rfl) (by kernel_rfl) (fun _ _ _ h => h) (Or.inl ⟨by kernel_rfl, ?_⟩) (by first | assumption | trivial) ?_
        rotate_left
        · (intro wS hSw; (try dsimp only at hSw); go_simp; try with_reducible rfl)
        (try simp only [List.append_eq, List.cons_append, List.nil_append, List.getElem_toArray, List.getElem_cons_succ, List.getElem_cons_zero, Act.put, List.setIfInBounds_toArray, List.set_cons_zero, List.set_cons_succ])
        refine wpAnyH_ready (rs := [4]) (by kernel_rfl) (by simp) ?_
        refine AllReadyH.cons rfl (fun K hK => ?_) AllReadyH.nil
        go_simp
        skip
        go_wp2_with fail
        refine hK.out _ _ (by first | assumption | trivial) (fun hHeld => ?_)
        clear hK K
        (try simp only [List.append_eq, List.cons_append, List.nil_append, List.getElem_toArray, List.getElem_cons_succ, List.getElem_cons_zero, Act.put, List.setIfInBounds_toArray, List.set_cons_zero, List.set_cons_succ])
        refine wpAnyH_take (i := 9) (v := ?_) rfl (by kernel_rfl) (by kernel_rfl) (by kernel_rfl) (fun _ _ _ h => h) (Or.inl ⟨by kernel_rfl, ?_⟩) (by first | assumption | trivial) ?_
        rotate_left
        · (intro wS hSw; (try dsimp only at hSw); go_simp; try with_reducible rfl)
        (try simp only [List.append_eq, List.cons_append, List.nil_append, List.getElem_toArray, List.getElem_cons_succ, List.getElem_cons_zero, Act.put, List.setIfInBounds_toArray, List.set_cons_zero, List.set_cons_succ])
        refine wpAnyH_done (by kernel_rfl) ?_ _
        refine NoPanic.normal ?_
        go_wp2_with fail
        go_roundw
        case rel => exact ⟨k + 1, by omega, by go_num, hid (bq HBK.out 1)⟩
        case measure => simp [intOf]; omega
      · have e1 := lt_f hlt2
        have e1n := lt_nf hlt2
        go_wp2_with (go_at_call 12; refine (awake_any _).mono ?_; rintro e w9 ⟨rfl, b9⟩; have HB9 := hid (past (past HA.out HBK.out) b9); clear b9)
        go_ret
        exact ⟨rfl, HB9.out⟩
end Go.Proofs.Ytlhngieinmgooaa
