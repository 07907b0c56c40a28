/-
  The walks of crc's functions and of their reference: what each returns, and that nothing that was there has turned.
-/
import Derived.Test.YtpppmijohfjigaaCrcPlain
import Derived.Test.YtpppmijohfjigaaChecked
namespace Go.Proofs.Ytpppmijohfjigaa
open Go.RowKit
set_option linter.unusedVariables false

set_option maxHeartbeats 400000 in
theorem step_any (n : Nat) (w : World) (hn : n < 4294967296) :
    Calls Try.prog 78 #[.int .u32 n] w fun e w' => e = .returned (.int .u32 (stpN 8 n)) ∧ w = w' := by
  go_enter Try.func78, Try.ntmps78
  go_wp2
  go_loop [0, 3, 4] (fun x low i => ∃ k : Nat, k ≤ 8 ∧ i = .int .i64 k ∧ x = .int .u32 (stpN k n)) (fun x low i => 8 - (intOf i).toNat)
  case atStart => exact ⟨0, by omega, rfl, rfl⟩
  case round =>
    obtain ⟨k, hk, rfl, rfl⟩ := hrel
    have hm := stpN_lt k hn
    by_cases hlt : k < 8
    · have ha := and1 _ hm
      by_cases hodd : stpN k n % 2 = 1
      · have hb : (((stpN k n % 2 : Nat) : Int) == 1) = true := by simp [hodd]
        have hx := hid (xorP _ hm)
        have hs : Hid (stpN (k + 1) n = stpN k n / 2 ^^^ 3988292384) := if_pos hodd
        clear hodd
        go_wp2
        go_round
        case rel => exact ⟨k + 1, by omega, by go_num, by rw [hs.out, hx.out]⟩
        case measure => simp [intOf]; omega
      · have hb : (((stpN k n % 2 : Nat) : Int) == 1) = false := by simp; omega
        have hs : Hid (stpN (k + 1) n = stpN k n / 2) := if_neg hodd
        clear hodd
        go_wp2
        go_round
        case rel => exact ⟨k + 1, by omega, by go_num, by rw [hs.out]; go_num⟩
        case measure => simp [intOf]; omega
    · go_wp2
      go_ret
      have : k = 8 := by omega
      subst this
      exact ⟨rfl, rfl⟩

set_option maxHeartbeats 400000 in
theorem refGo_any (a : Nat) (A : Option Addr) (n c : Nat) (l : List UInt8) (w : World) (ha : a < 4294967296) (h : Oct w A n l) (hc : n ≤ 2147483648) :
    Calls Try.prog 73 #[.int .u32 a, .slice A n c] w fun e w' => e = .returned (.int .u32 (goL a l)) ∧ w = w' := by
  have hl := h.len
  go_enter Try.func73, Try.ntmps73
  go_wp2
  go_loop [0, 5, 6, 7] (fun x i _ _ => ∃ k : Nat, k ≤ n ∧ i = .int .i64 k ∧ x = .int .u32 (goL a (l.take k))) (fun x i _ _ => n - (intOf i).toNat)
  case atStart => exact ⟨0, by omega, rfl, rfl⟩
  case round =>
    obtain ⟨k, hk, rfl, rfl⟩ := hrel
    by_cases hlt : k < n
    · obtain ⟨b, off, rfl, hcell⟩ := h.at_ (by omega)
      have hk' : k < l.length := by omega
      have hck := hcell k hk'
      clear hcell
      have hg := goL_lt (l.take k) ha
      have hx := xor8P _ l[k] hg
      have hs := hid (goL_take_succ a l k hk')
      have hx8 := xor8_lt l[k] hg
      have hm8 : ((l[k].toNat : Nat) : Int) % 4294967296 = l[k].toNat := by have := l[k].toNat_lt; omega
      clear hl
      go_wp2
      clear hck hx hm8
      go_loop [0, 6, 7] (fun x i _ => ∃ j : Nat, j ≤ 8 ∧ i = .int .i64 j ∧ x = .int .u32 (stpN j (goL a (l.take k) ^^^ l[k].toNat))) (fun x i _ => 8 - (intOf i).toNat)
      case atStart => exact ⟨0, by omega, rfl, rfl⟩
      case round =>
        obtain ⟨j, hj, rfl, rfl⟩ := hrel
        have hm := stpN_lt j hx8
        by_cases hlj : j < 8
        · by_cases hodd : stpN j (goL a (l.take k) ^^^ l[k].toNat) % 2 = 1
          · have hb : (((stpN j (goL a (l.take k) ^^^ l[k].toNat) : Nat) : Int) % 2 == 1) = true := by simp; omega
            have hxp := hid (xorP _ hm)
            have hst : Hid (stpN (j + 1) (goL a (l.take k) ^^^ l[k].toNat) = stpN j (goL a (l.take k) ^^^ l[k].toNat) / 2 ^^^ 3988292384) := if_pos hodd
            clear hodd
            go_wp2
            go_round
            case rel => exact ⟨j + 1, by omega, by go_num, by rw [hst.out, hxp.out]⟩
            case measure => simp [intOf]; omega
          · have hb : (((stpN j (goL a (l.take k) ^^^ l[k].toNat) : Nat) : Int) % 2 == 1) = false := by simp; omega
            have hst : Hid (stpN (j + 1) (goL a (l.take k) ^^^ l[k].toNat) = stpN j (goL a (l.take k) ^^^ l[k].toNat) / 2) := if_neg hodd
            clear hodd
            go_wp2
            go_round
            case rel => exact ⟨j + 1, by omega, by go_num, by rw [hst.out]; go_num⟩
            case measure => simp [intOf]; omega
        · go_wp2
          go_round
          case rel => 
            have e : j = 8 := by omega
            subst e
            exact ⟨k + 1, by omega, by go_num, by rw [hs.out]; rfl⟩
          case measure => simp [intOf]; omega
    · go_wp2
      go_ret
      exact ⟨ret_int (by rw [List.take_of_length_le (by omega)]), rfl⟩
end Go.Proofs.Ytpppmijohfjigaa
