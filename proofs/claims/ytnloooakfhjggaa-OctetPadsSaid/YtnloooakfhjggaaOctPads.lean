/-
  The walk of the law OctetPads: it returns true at whatever octets and length. A part of the proof: see the head of the text that ends in 'Law'.
-/
import Derived.Test.YtnloooakfhjggaaOctAwake
namespace Go.Proofs.Ytnloooakfhjggaa
open Go.RowKit
set_option linter.unusedVariables false

theorem padded_at (L : List UInt8) (k i : Nat) (h1 : L.length ≤ i) (h2 : i < L.length + k) : (L ++ List.replicate k (0 : UInt8))[i]'(by simp; omega) = 0 := by
  rw [List.getElem_append_right h1]
  simp
theorem padded_take (L : List UInt8) (k : Nat) : (L ++ List.replicate k (0 : UInt8)).take L.length = L := List.take_left' rfl

theorem cells_zero {W : World} {g n m : Nat} (L : List UInt8) (hl : L.length = n) (h : Oct W (some ⟨g, 0, none⟩) m (L ++ List.replicate (m - n) 0)) : ∀ i, n ≤ i → i < m → W.cell? ⟨g, i, none⟩ = some (.int .u8 0) := by
  intro i h1 h2
  obtain ⟨b, off, hA, hc⟩ := h.at_ (by omega)
  injection hA with hA
  injection hA with h3 h4
  subst h3 h4
  have := hc i (by simp; omega)
  rw [padded_at L (m - n) i (by omega) (by omega), Nat.zero_add] at this
  exact this

set_option maxRecDepth 20000 in
set_option maxHeartbeats 2000000 in
theorem walkOctetPads (A0 : Option Addr) (n0 c0 : Nat) (l0 : List UInt8) (x : Int) (w : World) (ho0 : Oct w A0 n0 l0) (hn0 : n0 ≤ c0) (hcm : c0 ≤ maxLen) (hxm : IntKind.i64.min ≤ x ∧ x ≤ IntKind.i64.max) :
    Calls Try.prog 4 #[.slice A0 n0 c0, .int .i64 x] w fun e w' => e = .returned (.bool true) ∧ Below w.heap.size w w' := by
  clear hcm hxm
  go_enter Try.func4, Try.ntmps4
  obtain ⟨B, hB⟩ : ∃ B, decide ((2000 : Int) < n0) = B := ⟨_, rfl⟩
  go_upto_if 11 with fail
  go_cut [0] (fun s0 wx => (∃ (n : Nat) (l : List UInt8), s0 = .slice A0 n c0 ∧ Hid (n ≤ 2000) ∧ n ≤ c0 ∧ Oct w A0 n l) ∧ w = wx)
  case first =>
    cases B with
    | true =>
      have h : 2000 < n0 := by simp at hB; omega
      have hc0 : ¬ c0 = 0 := by omega
      have hc1 : (2000 : Int) ≤ c0 := by omega
      have m0 := ho0.take 2000 (by omega)
      have H := hid h
      clear h hB
      go_wp2_with fail
      go_meet
      have h := H.out
      exact ⟨⟨2000, _, rfl, hid (by omega), by omega, m0⟩, rfl⟩
    | false =>
      have h : n0 ≤ 2000 := by simp at hB; omega
      have H := hid h
      clear h hB
      go_wp2_with fail
      go_meet
      have h := H.out
      exact ⟨⟨n0, _, rfl, hid (by omega), by omega, ho0⟩, rfl⟩
  case rest =>
    obtain ⟨⟨n, L, rfl, hn2, hnc, m0⟩, rfl⟩ := hcut
    clear ho0 hn0 hB
    have hst := strP c0 m0
    have hlen := m0.len
    go_upto_region 3 with fail
    go_cut [19] (fun s19 wx => (∃ b : Bool, s19 = .bool b ∧ Hid (b = true ↔ (5000 < x ∧ x ≤ 1048576))) ∧ w = wx)
    case first =>
      by_cases h1 : 5000 < x
      · have hx1 : decide (5000 < x) = true := by simp; omega
        by_cases h2 : x ≤ 1048576
        · have hx2 : decide (x ≤ 1048576) = true := by simp; omega
          go_wp2_with fail
          go_meet
          exact ⟨⟨_, rfl, hid (by simp; omega)⟩, rfl⟩
        · have hx2 : decide (x ≤ 1048576) = false := by simp; omega
          go_wp2_with fail
          go_meet
          exact ⟨⟨_, rfl, hid (by simp; omega)⟩, rfl⟩
      · have hx1 : decide (5000 < x) = false := by simp; omega
        go_wp2_with fail
        go_meet
        exact ⟨⟨_, rfl, hid (by simp; omega)⟩, rfl⟩
    case rest =>
    obtain ⟨⟨b, rfl, hb⟩, rfl⟩ := hcut
    go_upto_if 19 with fail
    go_cut [1] (fun s1 wx => (∃ y : Int, s1 = .int .i64 y ∧ (y < 0 ∨ 1048576 < y ∨ ∃ m : Nat, y = m ∧ Hid (m ≤ 5000))) ∧ w = wx)
    case first =>
      cases b with
      | true =>
        have h1 := hb.out.1 rfl
        obtain ⟨m, hm⟩ : ∃ m : Nat, x % 5000 = m := ⟨(x % 5000).toNat, by omega⟩
        have hx3 : Int.tmod x 5000 = m := by rw [Int.tmod_eq_emod_of_nonneg (by omega)]; exact hm
        go_wp2_with fail
        go_meet
        exact ⟨⟨m, rfl, Or.inr (Or.inr ⟨m, rfl, hid (by omega)⟩)⟩, rfl⟩
      | false =>
        have h1 : ¬ (5000 < x ∧ x ≤ 1048576) := fun h => by cases hb.out.2 h
        have H := hid h1
        clear h1
        go_wp2_with fail
        go_meet
        have h1 := H.out
        refine ⟨⟨x, rfl, ?_⟩, rfl⟩
        by_cases h0 : x < 0
        · exact Or.inl h0
        · by_cases h2 : 1048576 < x
          · exact Or.inr (Or.inl h2)
          · exact Or.inr (Or.inr ⟨x.toNat, by omega, hid (by omega)⟩)
    case rest =>
      obtain ⟨⟨y, rfl, hy⟩, rfl⟩ := hcut
      by_cases hbad : y < 0 ∨ 1048576 < y
      · by_cases h0 : y < 0
        · have hd : decide (y < 0) = true := by simpa using h0
          go_wp2_with (first
            | (go_at_call 13; refine (pad_bad A0 n c0 y _ hbad hnc).mono ?_; rintro e w1 ⟨rfl, rfl⟩)
            | (go_at_call 11; refine (awake_any _).mono ?_; rintro e w3 ⟨rfl, hb⟩))
          go_ret
          exact ⟨rfl, hb⟩
        · have hd : decide (y < 0) = false := by simpa using h0
          have hd2 : decide (1048576 < y) = true := by simp; omega
          go_wp2_with (first
            | (go_at_call 13; refine (pad_bad A0 n c0 y _ hbad hnc).mono ?_; rintro e w1 ⟨rfl, rfl⟩)
            | (go_at_call 11; refine (awake_any _).mono ?_; rintro e w3 ⟨rfl, hb⟩))
          go_ret
          exact ⟨rfl, hb⟩
      · obtain ⟨m, rfl, hm⟩ : ∃ m : Nat, y = m ∧ m ≤ 5000 := by
          rcases hy with h | h | h
          · omega
          · omega
          · obtain ⟨m, h1, h2⟩ := h
            exact ⟨m, h1, h2.out⟩
        have HM := hid hm
        clear hy hbad hm
        have hq1 : decide ((1048576 : Int) < m) = false := by have := HM.out; simp; omega
        have hm1 : m ≤ 1048576 := by have := HM.out; omega
        have HM1 := hid hm1
        clear hm1
        by_cases hf : m < n
        · have hq2 : decide (m < n) = true := by simpa using hf
          go_wp2_with (first
            | (go_at_call 13; refine (pad_full A0 n c0 m _ HM1.out hf).mono ?_; rintro e w1 ⟨rfl, rfl⟩)
            | (go_at_call 11; refine (awake_any _).mono ?_; rintro e w3 ⟨rfl, hb⟩))
          go_ret
          exact ⟨rfl, hb⟩
        · have hq2 : decide (m < n) = false := by simpa using hf
          have hnm : n ≤ m := by omega
          have hT := hid (show (L ++ List.replicate (m - n) 0).take n = L by rw [← hlen]; exact padded_take L _)
          have HC := hid (fun W g (h : Oct W (some ⟨g, 0, none⟩) m (L ++ List.replicate (m - n) 0)) => cells_zero L hlen h)
          go_wp2_with (first
            | (go_at_call 13; refine (pad_at A0 n c0 m L _ m0 HM1.out hnm).mono ?_; rintro e w1 ⟨g, rfl, p1, hb1⟩; have hst1 := strP c0 (m0.below hb1); have p2 := p1.take n hnm; rw [hT.out] at p2; have hst2 := strP m p2; have hcell := hid (HC.out _ _ p1); clear p2 p1))
          go_loop [8] (fun i => ∃ j : Nat, n ≤ j ∧ j ≤ m ∧ i = .int .i64 j) (fun i => m - (intOf i).toNat)
          case atStart => exact ⟨n, by omega, by omega, rfl⟩
          case round =>
            obtain ⟨j, hj1, hj2, rfl⟩ := hrel
            by_cases hlt : j < m
            · have hlt1 : decide (j < m) = true := by simpa using hlt
              have hc2 := hcell.out j hj1 hlt
              have hj64 : j + 1 ≤ 4611686018427387904 := by have := HM1.out; omega
              go_wp2
              go_round
              case rel => exact ⟨j + 1, by omega, by omega, by go_num⟩
              case measure => simp [intOf]; omega
            · have hlt1 : decide (j < m) = false := by simpa using hlt
              go_wp2_with (go_at_call 11; refine (awake_any _).mono ?_; rintro e w3 ⟨rfl, hb⟩)
              go_ret
              exact ⟨rfl, next hb1 hb⟩
end Go.Proofs.Ytnloooakfhjggaa
