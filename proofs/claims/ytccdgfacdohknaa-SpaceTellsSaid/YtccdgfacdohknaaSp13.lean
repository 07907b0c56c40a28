/-
  The walk of the document's Flags. A part of the proof: see the head of the text that ends in 'Law'.
-/
import Derived.Test.YtccdgfacdohknaaSp12
namespace Go.Proofs.Ytccdgfacdohknaa
open Go.RowKit
set_option linter.unusedVariables false

def FgPost (w : World) (N : Int) (bits : List UInt8) (e : Ending) (w' : World) : Prop :=
  (∃ l A c, Ok5 N bits l ∧ e = .returned (.tuple #[.slice A l.length c, .bool true]) ∧ BRow w' A l.length l ∧ Below w.heap.size w w') ∨
  ((¬ ∃ l, Ok5 N bits l) ∧ e = .returned (.tuple #[.slice none 0 0, .bool false]) ∧ Below w.heap.size w w')
/-- The first p bits, but no more than m. -/
def firstL (bits : List UInt8) (m p : Nat) : List Bool := (List.range (min p m)).map (bitL bits)
theorem firstL_length (bits : List UInt8) (m p : Nat) : (firstL bits m p).length = min p m := by simp [firstL]
theorem firstL_more (bits : List UInt8) (m p : Nat) (h : p < m) : firstL bits m (p + 1) = firstL bits m p ++ [bitL bits p] := by
  unfold firstL
  rw [Nat.min_eq_left (by omega), Nat.min_eq_left (by omega), List.range_succ, List.map_append]
  rfl
theorem firstL_full (bits : List UInt8) (m p : Nat) (h : m ≤ p) : firstL bits m (p + 1) = firstL bits m p := by
  unfold firstL
  rw [Nat.min_eq_right (by omega), Nat.min_eq_right h]
theorem ok5_first (bits : List UInt8) (m n : Nat) (hm : m ≤ 2048) (hl : bits.length = n) (h1 : m ≤ 8 * n) (h2 : 8 * n < m + 8) (h : ∀ p, m ≤ p → p < 8 * n → bitL bits p = false) : Ok5 m bits (firstL bits m (8 * n)) := by
  have hmin : min (8 * n) m = m := Nat.min_eq_right h1
  refine ⟨by rw [firstL_length, hmin], by rw [firstL_length, hmin]; exact hm, ?_⟩
  apply bits_ext (by rw [packL_length, firstL_length, hmin, hl]; omega)
  intro p hp
  rw [bitL_pack]
  unfold firstL
  rw [hmin]
  by_cases hpm : p < m
  · rw [List.getD_eq_getElem?_getD, List.getElem?_eq_getElem (by simpa using hpm)]
    simp
  · rw [List.getD_eq_getElem?_getD, List.getElem?_eq_none (by simp; omega)]
    exact h p (by omega) (by omega)
theorem ok5_not (bits : List UInt8) (m p : Nat) (hp : m ≤ p) (h : bitL bits p = true) : ¬ ∃ l, Ok5 m bits l := by
  rintro ⟨l, hn, _, rfl⟩
  rw [bitL_pack, List.getD_eq_getElem?_getD, List.getElem?_eq_none (by omega)] at h
  cases h
theorem bit_step (y k : Nat) : (((y / 2 ^ k : Nat) : Int) % 2 == 1) = y.testBit k := by
  rw [Nat.testBit_eq_decide_div_mod_eq, Bool.eq_iff_iff, beq_iff_eq, decide_eq_true_eq]
  omega

/-- Behind p of the bits. -/
structure FgI (w0 wr : World) (m n : Nat) (A1 : Option Addr) (c : Nat) (bits : List UInt8) (p q : Nat) (A : Option Addr) (d : Nat) : Prop where
  bx : OwnC wr w0.heap.size 24 [.int .i64 m, .slice A1 n c]
  row : wr.ownsRow (w0.heap.size + 1) 4 1 (.slice A q d) q ((firstL bits m p).map Value.bool)
  q : q = min p m
  no : ∀ i, m ≤ i → i < p → bitL bits i = false
  b : Below w0.heap.size w0 wr

set_option maxHeartbeats 4000000 in
theorem flags_good (m : Nat) (A : Option Addr) (n c : Nat) (bits : List UInt8) (w : World) (ho : Oct w A n bits) (hm : m ≤ 2048) (h1 : m ≤ 8 * n) (h2 : 8 * n < m + 8) :
    Calls Try.prog 11 #[.agg #[.int .i64 m, .slice A n c]] w (FgPost w m bits) := by
  have hd0 : decide ((m : Int) < 0) = false := by simp
  have hd1 : decide ((2048 : Int) < m) = false := by simp; omega
  have hd2 : decide ((n : Int) * 8 < m) = false := by simp; omega
  have hd3 : decide ((m : Int) + 8 ≤ (n : Int) * 8) = false := by simp; omega
  have hd4 : (m : Int) ≤ (n : Int) * 8 := by omega
  have hd5 : (n : Int) * 8 < (m : Int) + 8 := by omega
  have hw1 : IntKind.i64.wrap ((n : Int) * 8) = (n : Int) * 8 := by rw [IntKind.wrap_i64]; omega
  have hw2 : IntKind.i64.wrap ((m : Int) + 8) = (m : Int) + 8 := by rw [IntKind.wrap_i64]; omega
  have HO := hid ho
  have HLn := hid ho.len
  have c0 := hid (OwnC.new_ w #[.int .i64 m, .slice A n c] 24)
  have B0 := hid ((Below.refl _ w).alloc (Nat.le_refl _) (Obj.cells #[.int .i64 m, .slice A n c] 24))
  clear ho
  generalize hR : FgPost w m bits = R
  have HR := hid hR
  clear hR
  go_enter Try.func11, Try.ntmps11
  go_wp2
  clear hd0 hd1 hd2 hd3 hd4 hd5 hw1 hw2
  go_loopw [4, 5] (fun l i wr => ∃ (k q : Nat) (A2 : Option Addr) (d : Nat), k ≤ n ∧ i = .int .i64 k ∧ l = .slice A2 q d ∧ Hid (FgI w wr m n A c bits (8 * k) q A2 d)) (fun l i wr => n - (intOf i).toNat)
  case atStart => exact ⟨0, 0, none, 0, by omega, rfl, rfl, hid ⟨c0.out, World.ownsRow_nil _ _ _ _, by omega, fun i hi hi2 => by omega, B0.out⟩⟩
  case round =>
    obtain ⟨k, q, A2, d, hk, rfl, rfl, hI⟩ := hrel
    clear c0 B0
    have k0 := hI.out.bx.cell (j := 0) (u := .int .i64 m) rfl
    have k1 := hI.out.bx.cell (j := 1) (u := .slice A n c) rfl
    by_cases hlt : k < n
    · have hd : decide (k < n) = true := by simpa using hlt
      obtain ⟨b, off, rfl, hc⟩ := HO.out.at_ (by omega)
      have hkl : k < bits.length := by rw [HLn.out]; exact hlt
      have hck := cells_keep hI.out.b (hc k hkl)
      obtain ⟨y, hy⟩ : ∃ y, Hid (bits[k].toNat = y) := ⟨_, hid rfl⟩
      rw [hy.out] at hck
      have hyb : y < 256 := by rw [← hy.out]; exact bits[k].toNat_lt
      have hbit : Hid (∀ j, j < 8 → bitL bits (8 * k + j) = y.testBit j) := hid (fun j hj => by
        unfold bitL
        rw [show (8 * k + j) / 8 = k by omega, show (8 * k + j) % 8 = j by omega, List.getD_eq_getElem?_getD, List.getElem?_eq_getElem hkl, Option.getD_some, hy.out])
      clear hc
      go_wp2
      obtain ⟨w1, hw1⟩ : ∃ w1 : World, w1 = wr := ⟨_, rfl⟩
      subst hw1
      go_loopw [4, 6, 7] (fun l x i w2 => ∃ (j q z : Nat) (A2 : Option Addr) (d : Nat), j ≤ 8 ∧ i = .int .i64 j ∧ x = .int .u8 z ∧ z < 256 ∧ l = .slice A2 q d ∧ Hid (z = y / 2 ^ j ∧ FgI w w2 m n (some ⟨b, off, none⟩) c bits (8 * k + j) q A2 d)) (fun l x i w2 => 8 - (intOf i).toNat)
      case atStart => exact ⟨0, q, y, A2, d, by omega, rfl, rfl, hyb, rfl, hid ⟨by simp, hI.out⟩⟩
      case round =>
        obtain ⟨j, q2, z, A3, d3, hj, rfl, rfl, hz, rfl, hJ⟩ := hrel
        clear k0 k1 hck
        have k0 := hJ.out.2.bx.cell (j := 0) (u := .int .i64 m) rfl
        by_cases hj8 : j < 8
        · have hdj : decide ((j : Int) < 8) = true := by simp; omega
          have hb := hid (hbit.out j hj8)
          obtain ⟨ob, hob⟩ : ∃ ob, Hid (y.testBit j = ob) := ⟨_, hid rfl⟩
          have hodd : ((z : Int) % 2 == 1) = ob := by rw [hJ.out.1, bit_step, hob.out]
          have htm : Int.tmod (z : Int) 2 = (z : Int) % 2 := Int.tmod_eq_emod_of_nonneg (by omega)
          have hbo : Hid (bitL bits (8 * k + j) = ob) := hid (hb.out.trans hob.out)
          have hdiv : Hid (z / 2 = y / 2 ^ (j + 1)) := hid (by rw [hJ.out.1, Nat.div_div_eq_div_mul, Nat.pow_succ])
          by_cases hqm : q2 < m
          · have hdq : decide (q2 < m) = true := by simpa using hqm
            have hpm : 8 * k + j < m := by have := hJ.out.2.q; omega
            have hs2 := hJ.out.2.b.size
            have hs3 := lt_of_heap (hJ.out.2.bx.choose_spec.1)
            go_wp2_with (
              at_builtin
              refine wpList_append_row _ rfl (.tmp 62) (.tmp 64) boolsT rfl (w.heap.size + 1) (.slice A3 q2 d3) q2 ((firstL bits m (8 * k + j)).map Value.bool) rfl (own_alloc hJ.out.2.row _) (some ⟨wr.heap.size, 0, none⟩) 1 1 [.bool ob] rfl rfl (row_box _ _ rfl) (by simp [Value.oneCell']) (by simp only [maxLen]; omega) (by omega) (by simp; omega) ?_
              intro A4 d4 w4 hown4 hgr4 hat4
              have g4 : Below (w.heap.size + 1) wr w4 := ((Below.refl (w.heap.size + 1) wr).alloc (by omega) _).grown hgr4 (by simp; omega) (own_base hJ.out.2.row)
              have G4 := hid g4
              have O4 := hid hown4
              clear g4 hown4 hgr4 hat4)
            go_roundw
            case rel =>
              refine ⟨j + 1, q2 + 1, z / 2, A4, d4, by omega, by go_num, by simp, by omega, rfl, hid ⟨hdiv.out, hJ.out.2.bx.upto G4.out (by omega), ?_, by have := hJ.out.2.q; omega, fun i hi hi2 => by omega, hJ.out.2.b.trans (G4.out.mono (by omega))⟩⟩
              rw [← Nat.add_assoc, firstL_more bits m _ hpm, List.map_append, hbo.out]
              exact O4.out
            case measure => simp [intOf]; omega
          · have hdq : decide (q2 < m) = false := by simpa using hqm
            have hpm : m ≤ 8 * k + j := by have := hJ.out.2.q; omega
            cases ob with
            | true =>
              go_wp2
              rw [← HR.out]
              exact .inr ⟨ok5_not bits m (8 * k + j) hpm hbo.out, rfl, hJ.out.2.b⟩
            | false =>
              go_wp2
              go_roundw
              case rel =>
                refine ⟨j + 1, q2, z / 2, A3, d3, by omega, by go_num, by simp, by omega, rfl, hid ⟨hdiv.out, hJ.out.2.bx, ?_, by have := hJ.out.2.q; omega, fun i hi hi2 => ?_, hJ.out.2.b⟩⟩
                · rw [← Nat.add_assoc, firstL_full bits m _ hpm]
                  exact hJ.out.2.row
                · by_cases hij : i < 8 * k + j
                  · exact hJ.out.2.no i hi hij
                  · obtain rfl : i = 8 * k + j := by omega
                    exact hbo.out
              case measure => simp [intOf]; omega
        · have hdj : decide ((j : Int) < 8) = false := by simp; omega
          obtain rfl : j = 8 := by omega
          go_wp2
          go_roundw
          case rel => exact ⟨k + 1, q2, A3, d3, by omega, by go_num, rfl, hJ.out.2⟩
          case measure => simp [intOf]; omega
    · have hd : decide (k < n) = false := by simpa using hlt
      obtain rfl : k = n := by omega
      go_wp2
      rw [← HR.out]
      have hl : (firstL bits m (8 * k)).length = q := by rw [firstL_length, hI.out.q]
      refine .inl ⟨firstL bits m (8 * k), A2, d, ok5_first bits m k hm HLn.out h1 h2 hI.out.no, by rw [hl]; rfl, ⟨rfl, Row.of_own hI.out.row⟩, hI.out.b⟩

set_option maxHeartbeats 4000000 in
theorem flags_any (N : Int) (A : Option Addr) (n c : Nat) (bits : List UInt8) (w : World) (ho : Oct w A n bits) (hn : n ≤ 100000) (hN : -9223372036854775808 ≤ N ∧ N ≤ 9223372036854775807) :
    Calls Try.prog 11 #[.agg #[.int .i64 N, .slice A n c]] w (FgPost w N bits) := by
  by_cases h : (0 ≤ N ∧ N ≤ 2048) ∧ N ≤ 8 * n ∧ 8 * n < N + 8
  · obtain ⟨m, rfl⟩ : ∃ m : Nat, N = m := ⟨N.toNat, by omega⟩
    exact flags_good m A n c bits w ho (by omega) (by omega) (by omega)
  · have hno : ¬ ∃ l, Ok5 N bits l := by
      intro hx
      have hx := (ok5_iff N bits).1 hx
      rw [ho.len] at hx
      exact h (by omega)
    have HNo := hid hno
    have B0 := hid ((Below.refl _ w).alloc (Nat.le_refl _) (Obj.cells #[.int .i64 N, .slice A n c] 24))
    clear ho hno
    generalize hR : FgPost w N bits = R
    have HR := hid hR
    clear hR
    by_cases h0 : N < 0
    · have hd0 : decide (N < 0) = true := by simpa using h0
      clear h
      go_enter Try.func11, Try.ntmps11
      go_wp2
      rw [← HR.out]
      exact .inr ⟨HNo.out, rfl, B0.out⟩
    · have hd0 : decide (N < 0) = false := by simpa using h0
      by_cases h1 : 2048 < N
      · have hd1 : decide (2048 < N) = true := by simpa using h1
        clear h
        go_enter Try.func11, Try.ntmps11
        go_wp2
        rw [← HR.out]
        exact .inr ⟨HNo.out, rfl, B0.out⟩
      · have hd1 : decide (2048 < N) = false := by simpa using h1
        by_cases h2 : (n : Int) * 8 < N
        · have hd2 : decide ((n : Int) * 8 < N) = true := by simpa using h2
          clear h
          go_enter Try.func11, Try.ntmps11
          go_wp2
          rw [← HR.out]
          exact .inr ⟨HNo.out, rfl, B0.out⟩
        · have hd2 : decide ((n : Int) * 8 < N) = false := by simpa using h2
          have h3 : N + 8 ≤ (n : Int) * 8 := by omega
          have hd3 : decide (N + 8 ≤ (n : Int) * 8) = true := by simpa using h3
          clear h
          go_enter Try.func11, Try.ntmps11
          go_wp2
          rw [← HR.out]
          exact .inr ⟨HNo.out, rfl, B0.out⟩
end Go.Proofs.Ytccdgfacdohknaa
