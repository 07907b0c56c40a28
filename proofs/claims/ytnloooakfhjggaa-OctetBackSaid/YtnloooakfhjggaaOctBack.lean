/-
  The walk of the law OctetBack: it returns true at whatever octets, number and text. A part of the proof: see the head of the text that ends in 'Law'.
-/
import Derived.Test.YtnloooakfhjggaaOctBackPlain
namespace Go.Proofs.Ytnloooakfhjggaa
open Go.RowKit
set_option linter.unusedVariables false

theorem own_base {w : World} {base : Nat} {e : TypeId} {size n : Nat} {v : Value} {xs : List Value} (h : w.ownsRow base e size v n xs) : ∀ k, v.ownBlock = some k → base ≤ k := by
  intro k hk
  rcases h.2 with ⟨rfl, _⟩ | ⟨g, cap, cur, rfl, hg, _⟩
  · simp [Value.ownBlock] at hk
  · simp [Value.ownBlock] at hk
    omega
theorem take_oct {w : World} {A : Option Addr} {n : Nat} {l : List UInt8} (ho : Oct w A n l) (k : Nat) : Oct w A (min n k) (l.take k) := by
  rcases Nat.le_total n k with h | h
  · rw [Nat.min_eq_left h, List.take_of_length_le (by rw [ho.len]; exact h)]
    exact ho
  · rw [Nat.min_eq_right h]
    exact ho.take k h

set_option maxRecDepth 20000 in
set_option maxHeartbeats 4000000 in
theorem walkOctetBack (A0 : Option Addr) (n0 c0 : Nat) (l0 : List UInt8) (A1 : Option Addr) (n1 c1 : Nat) (l1 : List UInt8) (v : Nat) (wd : Int) (s0 : List UInt8) (w : World) (ho0 : Oct w A0 n0 l0) (hn0 : n0 ≤ c0) (ho1 : Oct w A1 n1 l1) (hn1 : n1 ≤ c1) (hv : v < 18446744073709551616) :
    Calls Try.prog 6 #[.agg #[.slice A0 n0 c0, .slice A1 n1 c1, .int .u64 v, .int .i64 wd, .string (str s0)]] w fun e w' => e = .returned (.bool true) ∧ Below w.heap.size w w' := by
  have hsz := str_size s0
  have HO0 := hid (And.intro ho0 hn0)
  have HO1 := hid (And.intro ho1 hn1)
  have HV := hid hv
  clear ho0 ho1 hv
  go_enter Try.func6, Try.ntmps6
  go_wp2
  go_quiet (fail)
  have hB0 : Below w.heap.size w ((w.alloc (Obj.cells #[.slice A0 n0 c0, .slice A1 n1 c1, .int .u64 v, .int .i64 wd, .string (str s0)] 41)).drewN nq) := bq ((Below.refl _ _).alloc (Nat.le_refl _) _) nq
  generalize (w.alloc (Obj.cells #[.slice A0 n0 c0, .slice A1 n1 c1, .int .u64 v, .int .i64 wd, .string (str s0)] 41)).drewN nq = W at hB0 ⊢
  go_upto_if 32 with fail
  go_cut [3] (fun s3 wx => (∃ (n : Nat) (l : List UInt8), s3 = .slice A0 n c0 ∧ Hid (n ≤ 200 ∧ Oct w A0 n l) ∧ n ≤ c0) ∧ W = wx)
  case first =>
    by_cases h : 200 < n0
    · have hd : decide ((200 : Int) < n0) = true := by simp; omega
      have hc1 : (200 : Int) ≤ c0 := by omega
      have hc0 : ¬ c0 = 0 := by omega
      go_wp2_with fail
      go_meet
      exact ⟨⟨200, _, rfl, hid ⟨by omega, HO0.out.1.take 200 (by omega)⟩, by omega⟩, rfl⟩
    · have hd : decide ((200 : Int) < n0) = false := by simp; omega
      go_wp2_with fail
      go_meet
      exact ⟨⟨n0, _, rfl, hid ⟨by omega, HO0.out.1⟩, hn0⟩, rfl⟩
  case rest =>
  obtain ⟨⟨n2, la, rfl, HA, hna⟩, rfl⟩ := hcut
  go_upto_if 37 with fail
  go_cut [4] (fun s4 wx => (∃ (n : Nat) (l : List UInt8), s4 = .slice A1 n c1 ∧ Hid (n ≤ 200 ∧ Oct w A1 n l) ∧ n ≤ c1) ∧ W = wx)
  case first =>
    by_cases h : 200 < n1
    · have hd : decide ((200 : Int) < n1) = true := by simp; omega
      have hc1 : (200 : Int) ≤ c1 := by omega
      have hc0 : ¬ c1 = 0 := by omega
      go_wp2_with fail
      go_meet
      exact ⟨⟨200, _, rfl, hid ⟨by omega, HO1.out.1.take 200 (by omega)⟩, by omega⟩, rfl⟩
    · have hd : decide ((200 : Int) < n1) = false := by simp; omega
      go_wp2_with fail
      go_meet
      exact ⟨⟨n1, _, rfl, hid ⟨by omega, HO1.out.1⟩, hn1⟩, rfl⟩
  case rest =>
  obtain ⟨⟨n3, lb, rfl, HB, hnb⟩, rfl⟩ := hcut
  go_upto_if 42 with fail
  go_cut [7] (fun s7 wx => (∃ l : List UInt8, s7 = .string (str l) ∧ l.length ≤ 300) ∧ W = wx)
  case first =>
    by_cases h : 300 < s0.length
    · have hd : decide ((300 : Int) < s0.length) = true := by simp; omega
      have hd1 : (300 : Int) ≤ s0.length := by omega
      have hx := str_extract s0 0 300
      go_wp2_with fail
      go_meet
      exact ⟨⟨_, rfl, by rw [List.length_take]; omega⟩, rfl⟩
    · have hd : decide ((300 : Int) < s0.length) = false := by simp; omega
      go_wp2_with fail
      go_meet
      exact ⟨⟨s0, rfl, by omega⟩, rfl⟩
  case rest =>
  obtain ⟨⟨s, rfl, hs⟩, rfl⟩ := hcut
  clear hsz hn0 hn1 HO0 HO1
  have hsz := str_size s
  by_cases hw : wd < 1 ∨ 8 < wd
  · go_wp2_with (first
      | (go_at_call 8; refine (put_bad v wd _ hw).mono ?_; rintro e w1 ⟨rfl, rfl⟩)
      | (go_at_call 11; refine (awake_any _).mono ?_; rintro e w2 ⟨rfl, hb2⟩))
    go_ret
    exact ⟨rfl, past hB0 hb2⟩
  · obtain ⟨k, rfl⟩ : ∃ k : Nat, wd = k := ⟨wd.toNat, by omega⟩
    have hk1 : 1 ≤ k := by omega
    have hk8 : k ≤ 8 := by omega
    clear hw
    by_cases h0 : v / 256 ^ k = 0
    · have H0 := hid h0
      clear h0
      have hla := HA.out.2.len
      have hlb := HB.out.2.len
      obtain ⟨E0, E1, E2, E3, E4⟩ := back_all la s lb v k hk1 hk8 H0.out (by omega)
      rw [hla] at E0 E1 E2 E3 E4
      rw [hlb] at E3 E4
      have F0 := hid E0
      have F1 := hid E1
      have F2 := hid E2
      have F3 := hid E3
      have F4 := hid E4
      have HLN : Hid ((((la ++ putL v k) ++ (putL s.length 2 ++ s)) ++ lb).length = n2 + k + (2 + s.length) + n3 ∧ n2 + k + (2 + s.length) + n3 ≤ 1000) := by
        have h1 := HA.out.1
        have h2 := HB.out.1
        refine hid ⟨?_, by omega⟩
        simp only [List.length_append, putL_length, hla, hlb]
      clear E0 E1 E2 E3 E4 hla hlb
      have hn2 := HA.out.1
      have hn3 := HB.out.1
      go_wp2_with (first
        | (go_at_call 8; refine (put_fits v k _ HV.out hk1 hk8 H0.out).mono ?_; rintro e w1 ⟨Ap, cp, rfl, op, bp⟩; have b1 := past hB0 bp; have o1 : Oct w1 Ap k (putL v k) := ⟨putL_length v k, Row.of_own op⟩; clear op bp)
        | (go_at_call 10; refine (putText_any s _ (by omega)).mono ?_; rintro e w2 ⟨At, ct, rfl, ot, bt⟩; have b2 := past b1 bt; have o2 : Oct w2 At (2 + s.length) (putL s.length 2 ++ s) := ⟨by rw [List.length_append, putL_length], Row.of_own ot⟩; have p2 := o1.below bt; have hB2 := HB.out.2.below b2; have hA2 := (HA.out.2.below b2).alloc (Obj.cells #[] 5); clear o1 b1 ot bt)
        | (at_builtin
           refine wpList_append_row _ rfl (.tmp 64) (.tmp 65) bytesT rfl w2.heap.size (.slice (some ⟨w2.heap.size, 0, none⟩) 0 0) 0 [] rfl (World.ownsRow_lit w2 #[] 0 (Nat.le_refl _) (Nat.zero_le _) rfl) A0 n2 c0 (la.map B8) rfl hA2.cells_len hA2.2 (one_B8 _) (by simp only [maxLen]; omega) (by omega) (by simp) ?_
           intro A3 c3 w3 hown3 hgr3 hat3
           have g3 : Below w2.heap.size w2 w3 := ((Below.refl _ w2).alloc (Nat.le_refl _) _).grown hgr3 (by simp) (fun k hk => by simp [Value.ownBlock] at hk; omega)
           simp only [Nat.zero_add, List.nil_append] at hown3
           have p3 := p2.below g3
           clear hgr3 hat3 hA2)
        | (at_builtin
           refine wpList_append_row _ rfl (.tmp 67) (.tmp 68) bytesT rfl w2.heap.size (.slice A3 n2 c3) n2 (la.map B8) rfl hown3 Ap k cp ((putL v k).map B8) rfl p3.cells_len p3.2 (one_B8 _) (by simp only [maxLen]; omega) (by omega) g3.size ?_
           intro A4 c4 w4 hown4 hgr4 hat4
           have g4 : Below w2.heap.size w2 w4 := g3.grown hgr4 g3.size (own_base hown3)
           rw [← List.map_append] at hown4
           have o4 := o2.below g4
           clear hgr4 hat4 hown3 p3 p2 g3 o2)
        | (at_builtin
           refine wpList_append_row _ rfl (.tmp 70) (.tmp 71) bytesT rfl w2.heap.size (.slice A4 (n2 + k) c4) (n2 + k) ((la ++ putL v k).map B8) rfl hown4 At (2 + s.length) ct ((putL s.length 2 ++ s).map B8) rfl o4.cells_len o4.2 (one_B8 _) (by simp only [maxLen]; omega) (by omega) g4.size ?_
           intro A5 c5 w5 hown5 hgr5 hat5
           have g5 : Below w2.heap.size w2 w5 := g4.grown hgr5 g4.size (own_base hown4)
           rw [← List.map_append] at hown5
           have q5 := hB2.below g5
           clear hgr5 hat5 hown4 o4 g4 hB2)
        | (at_builtin
           refine wpList_append_row _ rfl (.tmp 73) (.tmp 74) bytesT rfl w2.heap.size (.slice A5 (n2 + k + (2 + s.length)) c5) (n2 + k + (2 + s.length)) (((la ++ putL v k) ++ (putL s.length 2 ++ s)).map B8) rfl hown5 A1 n3 c1 (lb.map B8) rfl q5.cells_len q5.2 (one_B8 _) (by simp only [maxLen]; omega) (by omega) g5.size ?_
           intro A6 c6 w6 hown6 hgr6 hat6
           have g6 : Below w2.heap.size w2 w6 := g5.grown hgr6 g5.size (own_base hown5)
           rw [← List.map_append] at hown6
           have b6 := past b2 g6
           have o6 : Oct w6 A6 (n2 + k + (2 + s.length) + n3) (((la ++ putL v k) ++ (putL s.length 2 ++ s)) ++ lb) := ⟨HLN.out.1, Row.of_own hown6⟩
           clear hgr6 hat6 hown5 hown6 q5 g5 g6 b2)
        | (go_at_call 16; refine (read_any A6 (n2 + k + (2 + s.length) + n3) c6 (((la ++ putL v k) ++ (putL s.length 2 ++ s)) ++ lb) _ o6 (by omega)).mono ?_; rintro e w7 ⟨g, A7, c7, rfl, hg7, hr7, hA7, hA7b, hb7⟩; have b7 := past b6 hb7; have HG := hid (Nat.le_trans b6.size hg7); have HN := hid hA7; clear hg7 hA7 hA7b hb7 b6 o6)
        | (go_at_call 17; ((with_reducible refine (rraw_any _ g A7 (n2 + k + (2 + s.length) + n3) c7 (((la ++ putL v k) ++ (putL s.length 2 ++ s)) ++ lb) ⟨0, 0, 0⟩ n2 hr7 (by omega) HN.out (Nat.zero_le _)).mono ?_); simp only [F0.out]; rintro e w8 ⟨A8, c8, rfl, ho8, hr8, hg8⟩; have b8 := b7.grown hg8 b7.size (fun k hk => by injection hk with hk; have := HG.out; omega); have h8 := strP c8 ho8; clear ho8 hg8 hr7 b7))
        | (go_at_call 18; refine (rnum_any _ g A7 (n2 + k + (2 + s.length) + n3) c7 (((la ++ putL v k) ++ (putL s.length 2 ++ s)) ++ lb) ⟨n2, 0, 0⟩ k hr8 (by omega)).mono ?_; simp only [F1.out]; rintro e w9 ⟨rfl, hr9, hg9⟩; have b9 := b8.grown hg9 b8.size (fun k hk => by injection hk with hk; have := HG.out; omega); clear hg9 hr8 b8)
        | (go_at_call 19; refine (rtext_any _ g A7 (n2 + k + (2 + s.length) + n3) c7 (((la ++ putL v k) ++ (putL s.length 2 ++ s)) ++ lb) ⟨n2 + k, 0, 0⟩ hr9 (by omega) HN.out (by simp only; omega)).mono ?_; simp only [F2.out]; rintro e w10 ⟨rfl, hr10, hg10⟩; have b10 := b9.grown hg10 b9.size (fun k hk => by injection hk with hk; have := HG.out; omega); clear hg10 hr9 b9)
        | (go_at_call 17; ((with_reducible refine (rraw_any _ g A7 (n2 + k + (2 + s.length) + n3) c7 (((la ++ putL v k) ++ (putL s.length 2 ++ s)) ++ lb) ⟨n2 + k + (2 + s.length), 0, 0⟩ n3 hr10 (by omega) HN.out (by simp only; omega)).mono ?_); simp only [F3.out]; rintro e w11 ⟨A11, c11, rfl, ho11, hr11, hg11⟩; have b11 := b10.grown hg11 b10.size (fun k hk => by injection hk with hk; have := HG.out; omega); have h11 := strP c11 ho11; clear ho11 hg11 hr10 b10))
        | (go_at_call 20; refine (rend_any _ g A7 (n2 + k + (2 + s.length) + n3) c7 (((la ++ putL v k) ++ (putL s.length 2 ++ s)) ++ lb) ⟨n2 + k + (2 + s.length) + n3, 0, 0⟩ hr11).mono ?_; simp only [F4.out]; rintro e w12 ⟨rfl, hr12, hg12⟩; have b12 := b11.grown hg12 b11.size (fun k hk => by cases hk); have hcA := strP c0 (HA.out.2.below b12); have hcB := strP c1 (HB.out.2.below b12); clear hg12 hr11 hr12 b11)
        | (go_at_call 11; refine (awake_any _).mono ?_; rintro e w13 ⟨rfl, hb13⟩))
      go_ret
      exact ⟨rfl, past b12 hb13⟩
    · have H0 := hid h0
      clear h0
      go_wp2_with (first
        | (go_at_call 8; refine (put_over v k _ HV.out hk1 hk8 H0.out).mono ?_; rintro e w1 ⟨rfl, hb1⟩)
        | (go_at_call 11; refine (awake_any _).mono ?_; rintro e w2 ⟨rfl, hb2⟩))
      go_ret
      exact ⟨rfl, past (past hB0 hb1) hb2⟩
end Go.Proofs.Ytnloooakfhjggaa
