/-
  A flush. A part of the proof: see the head of the text that ends in 'Law'.
-/
import Derived.Test.YtkadehdbnkinlaaDk11
namespace Go.Proofs.Ytkadehdbnkinlaa
open Go.RowKit
set_option linter.unusedVariables false
attribute [local go_sem] Oper.semAt_some

theorem spend_has (D : Dsk) : (spendD D).has = D.has ∧ (spendD D).waits = D.waits := by unfold spendD; split; exact ⟨rfl, rfl⟩; split; exact ⟨rfl, rfl⟩; split <;> exact ⟨rfl, rfl⟩
theorem flush_off {W : World} {b0 d hb : Nat} {V : Value} {D : Dsk} (h : DkAt W b0 d hb V D) (ho : onD D = false) :
    Calls Try.prog 10 #[.pointer (some ⟨d, 0, none⟩)] W fun e w' => e = .returned (.int .i64 10) ∧ Left W b0 d hb V (spendD D) w' := by
  have hsp := spend_any h
  rw [ho] at hsp
  have HSP := hid hsp
  clear h ho hsp
  go_enter Try.func10, Try.ntmps10
  go_wp2_with (go_at_call 28; (with_reducible refine HSP.out.mono ?_); rintro e w2 ⟨rfl, hl⟩; have HL := hid hl; clear hl)
  go_ret
  exact ⟨rfl, HL.out⟩
theorem flush_on {W : World} {b0 d hb : Nat} {V : Value} {D : Dsk} (h : DkAt W b0 d hb V D) (ho : onD D = true) (hw : D.waits.length ≤ 100000) :
    Calls Try.prog 10 #[.pointer (some ⟨d, 0, none⟩)] W fun e w' => e = .returned (.int .i64 0) ∧
      DkAt w' b0 d hb (.slice none 0 0) { spendD D with has := doneK (fun _ => true) D.waits D.has D.waits.length, waits := [] } ∧ Only (Mine d hb V) W w' := by
  have hsp := spend_any h
  rw [ho] at hsp
  have HSP := hid hsp
  have HDN := hid (fun (w : World) (k : DkAt w b0 d hb V (spendD D)) => done_all k (by rw [(spend_has D).2]; exact hw))
  clear h ho hsp
  go_enter Try.func10, Try.ntmps10
  go_wp2_with (first
    | (go_at_call 28; (with_reducible refine HSP.out.mono ?_); rintro e w2 ⟨rfl, hl⟩; have HL := hid hl; clear hl)
    | (go_at_call 29; (refine (HDN.out _ HL.out.1).mono ?_); rintro e w3 ⟨rfl, h1, h2⟩; have H1 := hid h1; have H2 := hid h2; clear h1 h2))
  go_ret
  have h1 := H1.out
  rw [(spend_has D).1, (spend_has D).2] at h1
  exact ⟨rfl, h1, HL.out.2.trans H2.out (fun g h => .inl h)⟩
end Go.Proofs.Ytkadehdbnkinlaa
