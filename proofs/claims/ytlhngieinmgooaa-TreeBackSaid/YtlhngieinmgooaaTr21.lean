/-
  The document's small words: each, key8, at8, page. A part of the proof: see the head of the text that ends in 'Law'.
-/
import Derived.Test.YtlhngieinmgooaaTr8
import Derived.Test.YtlhngieinmgooaaOctText
import Derived.Test.YtlhngieinmgooaaCrcRef
import Derived.Test.YtlhngieinmgooaaOctRefNum
import Derived.Test.YtlhngieinmgooaaBytes
namespace Go.Proofs.Ytlhngieinmgooaa
open Go.RowKit
set_option linter.unusedVariables false
set_option maxRecDepth 100000
attribute [local go_sem] Oper.semAt_some

def eachR (k : Nat) : Nat := if k = 1 then 16 else if k = 2 then 10 else 0
theorem reach_any (k : Nat) (w : World) (hk : k < 256) :
    Calls Try.prog 42 #[.int .u8 (k : Int)] w fun e w' => e = .returned (.int .i64 (eachR k : Int)) ∧ w = w' := by
  by_cases h1 : k = 1
  · subst h1
    go_enter Try.func42, Try.ntmps42
    go_wp2_with fail
    go_ret
    exact ⟨rfl, rfl⟩
  · by_cases h2 : k = 2
    · subst h2
      go_enter Try.func42, Try.ntmps42
      go_wp2_with fail
      go_ret
      exact ⟨rfl, rfl⟩
    · have g1 : ((k : Int) == 1) = false := by simp; omega
      have g2 : ((k : Int) == 2) = false := by simp; omega
      have g1n : (k == 1) = false := by simpa using h1
      have g2n : (k == 2) = false := by simpa using h2
      have HF : Hid (eachR k = 0) := hid (by unfold eachR; rw [if_neg h1, if_neg h2])
      go_enter Try.func42, Try.ntmps42
      go_wp2_with fail
      go_ret
      exact ⟨by rw [HF.out]; rfl, rfl⟩
theorem key8_any (v : Nat) (w : World) (hv : v < 18446744073709551616) :
    Calls Try.prog 23 #[.int .u64 (v : Int)] w fun e w' => e = .returned (.string (str (putL v 8))) ∧ Below w.heap.size w w' := by
  have HO := hid (of_any v 8 w hv (by omega) (by omega) (Nat.div_eq_of_lt (by omega)))
  go_enter Try.func23, Try.ntmps23
  go_wp2_with (go_at_call 25; refine HO.out.mono ?_; rintro e w1 ⟨rfl, b1⟩; have HB := hid b1; clear b1)
  go_ret
  exact ⟨rfl, HB.out⟩
theorem at8_any (l : List UInt8) (at_ : Nat) (w : World) (h : at_ + 8 ≤ l.length) (hn : l.length ≤ 1000) :
    Calls Try.prog 43 #[.string (str l), .int .i64 (at_ : Int)] w fun e w' => e = .returned (.int .u64 (valL (cutL l at_ 8) : Nat)) ∧ w = w' := by
  have HN := hid (refNum_any l at_ 8 w (by omega) (by omega) h (by omega))
  go_enter Try.func43, Try.ntmps43
  go_wp2_with (go_at_call 53; refine HN.out.mono ?_; rintro e w1 ⟨rfl, rfl⟩)
  go_ret
  exact ⟨rfl, rfl⟩
def strN : Value → Nat
  | .string t => 128 - t.size
  | _ => 0
theorem strN_str (l : List UInt8) : strN (.string (str l)) = 128 - l.length := rfl
theorem rep_snoc (n : Nat) : List.replicate n (0 : UInt8) ++ [0] = List.replicate (n + 1) 0 := by
  rw [← List.replicate_succ']
set_option maxHeartbeats 2000000 in
theorem rpage_any (l : List UInt8) (w : World) (hl : l.length ≤ 124) :
    Calls Try.prog 24 #[.string (str l)] w fun e w' => e = .returned (.string (str (pageP l))) ∧ Below w.heap.size w w' := by
  obtain ⟨c, hc⟩ := run_bytes (P := Try.prog) w 9 34 5 l Try.underlying9 Try.underlying34 Try.underlying5
  have hbw := bytesW_below w 5 l
  have hO := (bytesW_own w 5 l).oct
  obtain ⟨W1, hW1⟩ : ∃ W1, bytesW w 5 l = W1 := ⟨_, rfl⟩
  rw [hW1] at hc hbw hO
  rw [str_size] at hc
  have HS := hid (refSeal_any (some ⟨w.heap.size, 0, none⟩) l.length c l W1 hO (by omega))
  have HBW := hid hbw
  have HLS : Hid ((l ++ le4 (sumL l)).length = l.length + 4) := hid (by rw [List.length_append, le4_length])
  obtain ⟨s, hs⟩ : ∃ s, l ++ le4 (sumL l) = s := ⟨_, rfl⟩
  have HPG : Hid (pageP l = s ++ List.replicate (128 - s.length) 0) := hid (by unfold pageP padP; rw [hs])
  rw [hs] at HS HLS
  obtain ⟨n, hn⟩ : ∃ n, l.length = n := ⟨_, rfl⟩
  rw [hn] at hc HS HLS hl
  clear hW1 hbw hO hs hn
  go_enter Try.func24, Try.ntmps24
  go_wp2_with (go_at_call 39; refine HS.out.mono ?_; rintro e w2 ⟨rfl, b2⟩; have HB2 := hid (past HBW.out b2); clear b2)
  go_loopw [3] (fun v3 wr => ∃ (j q : Nat) (x : List UInt8), q = n + 4 + j ∧ q ≤ 128 ∧ v3 = .string (str x) ∧ Hid (x.length = q) ∧ Hid (x = s ++ List.replicate j 0) ∧ wr = w2) (fun v3 wr => strN v3)
  case atStart => exact ⟨0, n + 4, s, by omega, by omega, rfl, HLS, hid (by simp), rfl⟩
  case round =>
    obtain ⟨j, q, x, hq, hj, rfl, HXL, HX, rfl⟩ := hrel
    have hsz : (str x).size = q := HXL.out
    by_cases hlt : q < 128
    · have g1 : decide ((q : Int) < 128) = true := by rw [decide_eq_true_iff]; omega
      have g1n : decide (q < 128) = true := by simpa using hlt
      have ha : str x ++ ({ data := #[0] } : ByteArray) = str (x ++ [0]) := str_append x [0]
      have HX2 : Hid ((x ++ [0]).length = q + 1) := hid (by rw [List.length_append, HXL.out]; rfl)
      have HX3 : Hid (x ++ [0] = s ++ List.replicate (j + 1) 0) := hid (by rw [HX.out, List.append_assoc, rep_snoc])
      go_wp2_with fail
      go_roundw
      case rel => exact ⟨j + 1, q + 1, x ++ [0], by omega, by omega, by first | rfl | rw [ha], HX2, HX3, trivial⟩
      case measure =>
        have e1 := strN_str x
        have e2 := strN_str (x ++ [0])
        rw [HXL.out] at e1
        rw [HX2.out] at e2
        first
          | (rw [e1, e2]; omega)
          | (simp only [ha]; rw [e1, e2]; omega)
    · have g1 : decide ((q : Int) < 128) = false := by rw [decide_eq_false_iff_not]; omega
      have g1n : decide (q < 128) = false := by rw [decide_eq_false_iff_not]; exact hlt
      have HF : Hid (str x = str (pageP l)) := hid (by
        rw [HPG.out, HX.out, HLS.out, show 128 - (n + 4) = j by omega])
      go_wp2_with fail
      go_ret
      exact ⟨by first | (rw [HF.out]; rfl) | rw [← HF.out], HB2.out⟩
end Go.Proofs.Ytlhngieinmgooaa
