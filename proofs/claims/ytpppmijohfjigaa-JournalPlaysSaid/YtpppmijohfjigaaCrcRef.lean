/-
  A part of the proof: see the head of the text that ends in 'Law'.
-/
import Derived.Test.YtpppmijohfjigaaCrcSum
namespace Go.Proofs.Ytpppmijohfjigaa
open Go.RowKit
set_option linter.unusedVariables false

theorem four_eq2 (s : Nat) (hs : s < 4294967296) : #[Value.int .u8 ((s : Int) % 256), .int .u8 ((s : Int) / 256 % 256), .int .u8 ((s : Int) / 65536 % 256), .int .u8 ((s : Int) / 16777216)] = ((le4 s).map B8).toArray := by
  have h := four_eq s hs
  have e : (s : Int) / 16777216 % 256 = (s : Int) / 16777216 := by omega
  rw [e] at h
  exact h.symm

set_option maxHeartbeats 400000 in
theorem refSeal_any (A : Option Addr) (n c : Nat) (l : List UInt8) (w : World) (ho : Oct w A n l) (hc : n ≤ 2147483648) :
    Calls Try.prog 43 #[.slice A n c] w fun e w' => e = .returned (.string (str (l ++ le4 (sumL l)))) ∧ Below w.heap.size w w' := by
  have hcv := run_string_oct (P := Try.prog) c ho Try.underlying24 Try.underlying5 Try.underlying9
  have hs := sumL_lt l
  have hcv2 := run_string_oct (P := Try.prog) 4 (Oct.of_block (le4 (sumL l)) (heap_alloc_new w (.cells #[Value.int .u8 ((sumL l : Int) % 256), .int .u8 ((sumL l : Int) / 256 % 256), .int .u8 ((sumL l : Int) / 65536 % 256), .int .u8 ((sumL l : Int) / 16777216)] 5)) (four_eq2 _ hs)) Try.underlying24 Try.underlying5 Try.underlying9
  have hl := ho.len
  rw [le4_length] at hcv2
  have hz1 : (str l).size ≤ 2147483648 := by rw [str_size, hl]; exact hc
  have hz2 : (str (le4 (sumL l))).size ≤ 2147483648 := by rw [str_size, le4_length]; omega
  clear hl
  go_enter Try.func43, Try.ntmps43
  go_wp2_with (go_at_call 44; refine (refSum_any A n c l _ ho hc).mono ?_; rintro e w1 ⟨rfl, rfl⟩)
  go_ret
  exact ⟨by rw [← str_append]; rfl, (Below.refl _ _).alloc (Nat.le_refl _) _⟩
end Go.Proofs.Ytpppmijohfjigaa
