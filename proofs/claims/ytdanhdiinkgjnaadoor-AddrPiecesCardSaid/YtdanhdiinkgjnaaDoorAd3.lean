/-
  What octets say: the program's walk. A part of the proof: see the head of the text that ends in 'Law'.
-/
import Derived.Test.YtdanhdiinkgjnaaDoorAd2
namespace Go.Proofs.YtdanhdiinkgjnaaDoor
open Go.RowKit
set_option linter.unusedVariables false
attribute [local go_sem] Oper.semAt_some

theorem len_any (B b : Nat) (l : List UInt8) (w : World) (h : BldAt B b l w) :
    Calls Tryd.prog 27 #[.pointer (some ⟨b, 0, none⟩)] w fun e w' => e = .returned (.int .i64 (l.length : Int)) ∧ w = w' :=
  (Tryd.Builder_Len B b (l.map B8) w h).mono fun e w' ⟨h1, h2⟩ => ⟨by rw [h1, List.length_map], h2.symm⟩
/-- What stands while it is said: k octets are looked at. -/
structure SyI (w wr : World) (P : List (UInt8 × Nat)) (k : Nat) (g : Bool) (acc : List UInt8) : Prop where
  b : BldAt w.heap.size w.heap.size acc wr
  bel : Below w.heap.size w wr
  eq : sayL false [] P = sayL g acc (P.drop k)
  len : acc.length ≤ 2 * k
theorem bld_drewN {B b : Nat} {l : List UInt8} {w : World} (h : BldAt B b l w) (n : Nat) : BldAt B b l (w.drewN n) := h
theorem bldlt {w wr : World} {acc : List UInt8} (h : BldAt w.heap.size w.heap.size acc wr) : w.heap.size < wr.heap.size := by
  rcases h with ⟨_, v, h1, _⟩ | ⟨_, v, h1, _⟩
  · exact lt_of_heap h1
  · exact lt_of_heap h1
set_option maxRecDepth 100000 in
set_option maxHeartbeats 4000000 in
theorem says_any (P : List (UInt8 × Nat)) (s : List UInt8) (hs : P.map (·.1) = s) (A : Option Addr) (n cp : Nat) (hn : P.length = n) (w : World) (hr : Row w A (P.map fun x => U x.2)) (hl : n ≤ 100000) :
    Calls Tryd.prog 22 #[.string (str s), .slice A n cp] w fun e w' => e = .returned (.string (str (sayL false [] P))) ∧ Below w.heap.size w w' := by
  have hsz : (str s).size = n := by rw [← hs, str_size, List.length_map, hn]
  have HS := hid hs
  have HR := hid hr
  have HN := hid hn
  have I0 := hid (show SyI w (w.alloc (.cells #[.pointer none, .slice none 0 0] 51)) P 0 false [] from ⟨bld_new w, (Below.refl _ w).alloc (Nat.le_refl _) _, rfl, Nat.le_refl _⟩)
  clear hs hr hn
  go_enter Tryd.func22, Tryd.ntmps22
  go_wp2_with fail
  go_loopw [6, 10] (fun g v wr => ∃ (k : Nat) (gb : Bool) (acc : List UInt8), k ≤ n ∧ g = .bool gb ∧ v = .int .i64 (k : Int) ∧ Hid (SyI w wr P k gb acc)) (fun g v wr => n - (intOf v).toNat)
  case atStart => exact ⟨0, false, [], Nat.zero_le _, rfl, rfl, I0⟩
  case round =>
    clear I0
    obtain ⟨k, gb, acc, hk2, rfl, rfl, HI⟩ := hrel
    by_cases hlt : k < n
    · have d1 : decide ((k : Int) < (n : Int)) = true := by simp; omega
      have d1' : decide (k < n) = true := by simp; omega
      have d2 : decide ((k : Int) < ((str s).size : Int)) = true := by rw [hsz]; simp; omega
      have d2' : decide (k < (str s).size) = true := by rw [hsz]; simp; omega
      have hks : k < (str s).size := by rw [hsz]; omega
      have hkp : k < P.length := by rw [HN.out]; exact hlt
      have e0 : (0 : Int) ≤ (k : Int) := by omega
      have e1 : (k : Int) < ((str s).size : Int) := by rw [hsz]; omega
      have e2 : (k : Int) < (n : Int) := by omega
      have e3 : (k : Int).toNat = k := by omega
      have HRK := hid (HR.out.below HI.out.bel)
      obtain ⟨b, off, rfl, hcell⟩ := row_at HRK.out hkp
      have x0 := hcell k hkp
      have hc := str_map_get HS.out hks hkp
      obtain ⟨⟨c, u⟩, hcu⟩ : ∃ x, P[k]'hkp = x := ⟨_, rfl⟩
      rw [hcu] at x0 hc
      have hd : P.drop k = (c, u) :: P.drop (k + 1) := by rw [List.drop_eq_getElem_cons hkp, hcu]
      simp only [U] at x0
      dsimp only at hc
      have HD := hid hd
      clear hcell hcu hd HRK
      by_cases h3 : u = 3
      · subst h3
        have HI2 := hid (show SyI w wr P (k + 1) gb acc from ⟨HI.out.b, HI.out.bel, by rw [HI.out.eq, HD.out, sayL, if_pos rfl], by have := HI.out.len; omega⟩)
        clear HI HD
        go_wp2_with fail
        go_roundw
        case rel => exact ⟨k + 1, gb, acc, by omega, rfl, by go_num, HI2⟩
        case measure => simp [intOf]; omega
      · have d3 : ((u : Int) == 3) = false := by simp; omega
        by_cases h2 : u = 2 ∨ u = 0 ∧ bl c = true
        · have HI2 : Hid (SyI w wr P (k + 1) (!acc.isEmpty) acc) := hid ⟨HI.out.b, HI.out.bel, by rw [HI.out.eq, HD.out, sayL, if_neg h3, if_pos h2], by have := HI.out.len; omega⟩
          have hd5 : decide ((0 : Int) < (acc.length : Int)) = (!acc.isEmpty) := by cases acc <;> simp
          have hd5' : decide (0 < acc.length) = (!acc.isEmpty) := by cases acc <;> simp
          by_cases h22 : u = 2
          · subst h22
            clear HI HD h3 h2
            go_wp2_with (go_at_call 27; refine (len_any _ _ acc _ HI2.out.b).mono ?_; rintro e w1 ⟨rfl, rfl⟩)
            go_roundw
            case rel => exact ⟨k + 1, _, acc, by omega, rfl, by go_num, HI2⟩
            case measure => simp [intOf]; omega
          · obtain ⟨rfl, hb⟩ : u = 0 ∧ bl c = true := by rcases h2 with h | h; exact absurd h h22; exact h
            clear HI HD h3 h2 h22
            go_wp2_with (first
              | (go_at_call 26; refine (blank_any c _).mono ?_; rintro e w1 ⟨rfl, rfl⟩)
              | (go_at_call 27; refine (len_any _ _ acc _ HI2.out.b).mono ?_; rintro e w1 ⟨rfl, rfl⟩))
            go_roundw
            case rel => exact ⟨k + 1, _, acc, by omega, rfl, by go_num, HI2⟩
            case measure => simp [intOf]; omega
        · have hn2 : u ≠ 2 := fun h => h2 (.inl h)
          have d4 : ((u : Int) == 2) = false := by simp; omega
          have HE : Hid (sayL false [] P = sayL false ((if gb = true then acc ++ [32] else acc) ++ [c]) (P.drop (k + 1))) := hid (by rw [HI.out.eq, HD.out, sayL, if_neg h3, if_neg h2])
          have HLA := hid HI.out.len
          have B := hid HI.out.b
          have BL := hid HI.out.bel
          have hb : u = 0 → bl c = false := fun h => by cases hbb : bl c with | false => rfl | true => exact absurd (.inr ⟨h, hbb⟩) h2
          clear HI HD h2
          by_cases h0 : u = 0
          · subst h0
            have hb := hb rfl
            cases gb with
            | true =>
              go_wp2_with (first
                | (go_at_call 26; refine (blank_any c _).mono ?_; rintro e w1 ⟨rfl, rfl⟩)
                | (go_at_call 28; refine (write_any _ _ acc 32 _ B.out (by have := HLA.out; omega) BL.out.size).mono ?_; rintro e w1 ⟨rfl, b1, b2⟩; have B2 := hid b1; have BL := hid (BL.out.trans b2); clear B b1 b2)
                | (go_at_call 28; refine (write_any _ _ (acc ++ [32]) c _ B2.out (by have := HLA.out; simp; omega) BL.out.size).mono ?_; rintro e w1 ⟨rfl, b1, b2⟩; have B3 := hid b1; have BL := hid (BL.out.trans b2); clear B2 b1 b2))
              go_roundw
              case rel => exact ⟨k + 1, false, (acc ++ [32]) ++ [c], by omega, rfl, by go_num, hid ⟨B3.out, BL.out, HE.out, by have := HLA.out; simp; omega⟩⟩
              case measure => simp [intOf]; omega
            | false =>
              go_wp2_with (first
                | (go_at_call 26; refine (blank_any c _).mono ?_; rintro e w1 ⟨rfl, rfl⟩)
                | (go_at_call 28; refine (write_any _ _ acc c _ B.out (by have := HLA.out; omega) BL.out.size).mono ?_; rintro e w1 ⟨rfl, b1, b2⟩; have B3 := hid b1; have BL := hid (BL.out.trans b2); clear B b1 b2))
              go_roundw
              case rel => exact ⟨k + 1, false, acc ++ [c], by omega, rfl, by go_num, hid ⟨B3.out, BL.out, HE.out, by have := HLA.out; simp; omega⟩⟩
              case measure => simp [intOf]; omega
          · have d0 : ((u : Int) == 0) = false := by simp; omega
            clear hb
            cases gb with
            | true =>
              go_wp2_with (first
                | (go_at_call 26; refine (blank_any c _).mono ?_; rintro e w1 ⟨rfl, rfl⟩)
                | (go_at_call 28; refine (write_any _ _ acc 32 _ B.out (by have := HLA.out; omega) BL.out.size).mono ?_; rintro e w1 ⟨rfl, b1, b2⟩; have B2 := hid b1; have BL := hid (BL.out.trans b2); clear B b1 b2)
                | (go_at_call 28; refine (write_any _ _ (acc ++ [32]) c _ B2.out (by have := HLA.out; simp; omega) BL.out.size).mono ?_; rintro e w1 ⟨rfl, b1, b2⟩; have B3 := hid b1; have BL := hid (BL.out.trans b2); clear B2 b1 b2))
              go_roundw
              case rel => exact ⟨k + 1, false, (acc ++ [32]) ++ [c], by omega, rfl, by go_num, hid ⟨B3.out, BL.out, HE.out, by have := HLA.out; simp; omega⟩⟩
              case measure => simp [intOf]; omega
            | false =>
              go_wp2_with (first
                | (go_at_call 26; refine (blank_any c _).mono ?_; rintro e w1 ⟨rfl, rfl⟩)
                | (go_at_call 28; refine (write_any _ _ acc c _ B.out (by have := HLA.out; omega) BL.out.size).mono ?_; rintro e w1 ⟨rfl, b1, b2⟩; have B3 := hid b1; have BL := hid (BL.out.trans b2); clear B b1 b2))
              go_roundw
              case rel => exact ⟨k + 1, false, acc ++ [c], by omega, rfl, by go_num, hid ⟨B3.out, BL.out, HE.out, by have := HLA.out; simp; omega⟩⟩
              case measure => simp [intOf]; omega
    · have hkn : k = n := by omega
      subst hkn
      have d1 : decide ((k : Int) < (k : Int)) = false := by simp
      have d1' : decide (k < k) = false := by simp
      have HF : Hid (sayL false [] P = acc) := hid (by rw [HI.out.eq, List.drop_of_length_le (by rw [HN.out]; exact Nat.le_refl _), sayL])
      have B := hid HI.out.b
      have BL := hid HI.out.bel
      clear HI
      go_wp2_with (go_at_call 29; refine (string_any _ _ acc _ B.out BL.out.size).mono ?_; rintro e w1 ⟨rfl, b1⟩; have BL := hid (BL.out.trans b1); clear b1)
      go_ret
      exact ⟨by rw [HF.out]; rfl, BL.out⟩
end Go.Proofs.YtdanhdiinkgjnaaDoor
