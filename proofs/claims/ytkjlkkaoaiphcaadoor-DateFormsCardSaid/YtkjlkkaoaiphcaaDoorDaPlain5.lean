/-
  The signs of a date's text, one after the other: plain Lean, no program in sight. A part of the proof: see the head of the text that ends in 'Law'.
-/
import Derived.Test.YtkjlkkaoaiphcaaDoorDaPlain4
namespace Go.Proofs.YtkjlkkaoaiphcaaDoor
open Go.RowKit Go.Shelf
set_option linter.unusedVariables false

def fmL : List UInt8 := [110, 110, 45, 109, 109, 109, 45, 110, 110, 110, 110, 32, 110, 110, 58, 110, 110, 58, 110, 110, 32, 122, 110, 110, 110, 110]
/-- May this sign stand here? -/
def okB (c f : UInt8) (i : Nat) : Bool := if f = 110 then digB c || (decide (i = 0) && decide (c = 32)) else if f = 109 then true else if f = 122 then decide (c = 43 ∨ c = 45) else decide (c = f)
def okAt (l : List UInt8) (i : Nat) : Bool := okB (l.getD i 0) (fmL.getD i 0) i
theorem list26 {l : List UInt8} (h : l.length = 26) : ∃ a0 a1 a2 a3 a4 a5 a6 a7 a8 a9 a10 a11 a12 a13 a14 a15 a16 a17 a18 a19 a20 a21 a22 a23 a24 a25, l = [a0, a1, a2, a3, a4, a5, a6, a7, a8, a9, a10, a11, a12, a13, a14, a15, a16, a17, a18, a19, a20, a21, a22, a23, a24, a25] := by
  match l, h with
  | [a0, a1, a2, a3, a4, a5, a6, a7, a8, a9, a10, a11, a12, a13, a14, a15, a16, a17, a18, a19, a20, a21, a22, a23, a24, a25], _ => exact ⟨a0, a1, a2, a3, a4, a5, a6, a7, a8, a9, a10, a11, a12, a13, a14, a15, a16, a17, a18, a19, a20, a21, a22, a23, a24, a25, rfl⟩
theorem u8_eq {a : UInt8} {n : Nat} (h : n < 256) : a.toNat = n ↔ a = UInt8.ofNat n := by
  constructor
  · intro e
    exact UInt8.toNat_inj.1 (e.trans (UInt8.toNat_ofNat_of_lt' (by show n < 256; exact h)).symm)
  · rintro rfl
    exact UInt8.toNat_ofNat_of_lt' (by show n < 256; exact h)
theorem okN (c : UInt8) (i : Nat) : okB c 110 i = (digB c || (decide (i = 0) && decide (c = 32))) := rfl
theorem dig48 : digB 48 = true := by decide
theorem dig32 : digB 32 = false := by decide
theorem sign_all {l : List UInt8} (hl : l.length = 26) : (∀ i, i < 26 → okAt l i = true) ↔ formB l ∧ digsB l := by
  obtain ⟨a0, a1, a2, a3, a4, a5, a6, a7, a8, a9, a10, a11, a12, a13, a14, a15, a16, a17, a18, a19, a20, a21, a22, a23, a24, a25, rfl⟩ := list26 hl
  have hz : zeroL [a0, a1, a2, a3, a4, a5, a6, a7, a8, a9, a10, a11, a12, a13, a14, a15, a16, a17, a18, a19, a20, a21, a22, a23, a24, a25] = (if a0.toNat = 32 then 48 else a0) :: [a1, a2, a3, a4, a5, a6, a7, a8, a9, a10, a11, a12, a13, a14, a15, a16, a17, a18, a19, a20, a21, a22, a23, a24, a25] := by
    unfold zeroL
    show (if a0.toNat = 32 then _ else _) = _
    split <;> rfl
  constructor
  · intro h
    have g := fun i hi => h i hi
    have e2 : a2 = 45 := of_decide_eq_true (g 2 (by omega))
    have e6 : a6 = 45 := of_decide_eq_true (g 6 (by omega))
    have e11 : a11 = 32 := of_decide_eq_true (g 11 (by omega))
    have e14 : a14 = 58 := of_decide_eq_true (g 14 (by omega))
    have e17 : a17 = 58 := of_decide_eq_true (g 17 (by omega))
    have e20 : a20 = 32 := of_decide_eq_true (g 20 (by omega))
    have e21 : a21 = 43 ∨ a21 = 45 := of_decide_eq_true (g 21 (by omega))
    have d0 : (digB a0 || decide (a0 = 32)) = true := g 0 (by omega)
    have dd : ∀ i, i < 26 → 0 < i → fmL.getD i 0 = 110 → digB ([a0, a1, a2, a3, a4, a5, a6, a7, a8, a9, a10, a11, a12, a13, a14, a15, a16, a17, a18, a19, a20, a21, a22, a23, a24, a25].getD i 0) = true := fun i hi h0 hf => by
      have := g i hi
      unfold okAt at this
      rw [hf, okN, decide_eq_false (by omega : ¬ i = 0), Bool.false_and, Bool.or_false] at this
      exact this
    refine ⟨⟨rfl, ?_, ?_, ?_, ?_, ?_, ?_, ?_⟩, ?_⟩
    · show a2.toNat = 45; rw [e2]; rfl
    · show a6.toNat = 45; rw [e6]; rfl
    · show a11.toNat = 32; rw [e11]; rfl
    · show a14.toNat = 58; rw [e14]; rfl
    · show a17.toNat = 58; rw [e17]; rfl
    · show a20.toNat = 32; rw [e20]; rfl
    · show a21.toNat = 43 ∨ a21.toNat = 45
      rcases e21 with e | e
      · exact .inl (by rw [e]; rfl)
      · exact .inr (by rw [e]; rfl)
    · intro k hk
      have hf : digB (if a0.toNat = 32 then 48 else a0) = true := by
        split
        · exact dig48
        · rename_i hn
          rw [Bool.or_eq_true] at d0
          rcases d0 with d0 | d0
          · exact d0
          · have := of_decide_eq_true d0
            rw [this] at hn
            exact absurd rfl hn
      unfold pcL
      rw [hz]
      obtain rfl | rfl | rfl | rfl | rfl | rfl | rfl : k = 0 ∨ k = 1 ∨ k = 2 ∨ k = 3 ∨ k = 4 ∨ k = 5 ∨ k = 6 := by omega
      · show ((digB (if a0.toNat = 32 then 48 else a0) && (digB a1 && true)) && true) = true
        rw [hf, show digB a1 = true from dd 1 (by omega) (by omega) rfl]; rfl
      · show ((digB a7 && (digB a8 && (digB a9 && (digB a10 && true)))) && true) = true
        rw [show digB a7 = true from dd 7 (by omega) (by omega) rfl, show digB a8 = true from dd 8 (by omega) (by omega) rfl, show digB a9 = true from dd 9 (by omega) (by omega) rfl, show digB a10 = true from dd 10 (by omega) (by omega) rfl]; rfl
      · show ((digB a12 && (digB a13 && true)) && true) = true
        rw [show digB a12 = true from dd 12 (by omega) (by omega) rfl, show digB a13 = true from dd 13 (by omega) (by omega) rfl]; rfl
      · show ((digB a15 && (digB a16 && true)) && true) = true
        rw [show digB a15 = true from dd 15 (by omega) (by omega) rfl, show digB a16 = true from dd 16 (by omega) (by omega) rfl]; rfl
      · show ((digB a18 && (digB a19 && true)) && true) = true
        rw [show digB a18 = true from dd 18 (by omega) (by omega) rfl, show digB a19 = true from dd 19 (by omega) (by omega) rfl]; rfl
      · show ((digB a22 && (digB a23 && true)) && true) = true
        rw [show digB a22 = true from dd 22 (by omega) (by omega) rfl, show digB a23 = true from dd 23 (by omega) (by omega) rfl]; rfl
      · show ((digB a24 && (digB a25 && true)) && true) = true
        rw [show digB a24 = true from dd 24 (by omega) (by omega) rfl, show digB a25 = true from dd 25 (by omega) (by omega) rfl]; rfl
  · rintro ⟨⟨_, e2, e6, e11, e14, e17, e20, e21⟩, hd⟩ i hi
    have p0 := hd 0 (by omega)
    have p1 := hd 1 (by omega)
    have p2 := hd 2 (by omega)
    have p3 := hd 3 (by omega)
    have p4 := hd 4 (by omega)
    have p5 := hd 5 (by omega)
    have p6 := hd 6 (by omega)
    unfold pcL at p0 p1 p2 p3 p4 p5 p6
    rw [hz] at p0 p1 p2 p3 p4 p5 p6
    have q0 : ((digB (if a0.toNat = 32 then 48 else a0) && (digB a1 && true)) && true) = true := p0
    have q1 : ((digB a7 && (digB a8 && (digB a9 && (digB a10 && true)))) && true) = true := p1
    have q2 : ((digB a12 && (digB a13 && true)) && true) = true := p2
    have q3 : ((digB a15 && (digB a16 && true)) && true) = true := p3
    have q4 : ((digB a18 && (digB a19 && true)) && true) = true := p4
    have q5 : ((digB a22 && (digB a23 && true)) && true) = true := p5
    have q6 : ((digB a24 && (digB a25 && true)) && true) = true := p6
    simp only [Bool.and_true, Bool.and_eq_true] at q0 q1 q2 q3 q4 q5 q6
    have dn : ∀ (c : UInt8) (i : Nat), digB c = true → okB c 110 i = true := fun c i h => by rw [okN, h]; rfl
    match i, hi with
    | 0, _ =>
      show (digB a0 || decide (a0 = 32)) = true
      have h0 := q0.1
      split at h0
      · rename_i h
        rw [show a0 = 32 from (u8_eq (n := 32) (by omega)).1 h]; rfl
      · rw [h0]; rfl
    | 1, _ => exact dn a1 1 q0.2
    | 2, _ => exact decide_eq_true ((u8_eq (n := 45) (by omega)).1 e2)
    | 3, _ => rfl
    | 4, _ => rfl
    | 5, _ => rfl
    | 6, _ => exact decide_eq_true ((u8_eq (n := 45) (by omega)).1 e6)
    | 7, _ => exact dn a7 7 q1.1
    | 8, _ => exact dn a8 8 q1.2.1
    | 9, _ => exact dn a9 9 q1.2.2.1
    | 10, _ => exact dn a10 10 q1.2.2.2
    | 11, _ => exact decide_eq_true ((u8_eq (n := 32) (by omega)).1 e11)
    | 12, _ => exact dn a12 12 q2.1
    | 13, _ => exact dn a13 13 q2.2
    | 14, _ => exact decide_eq_true ((u8_eq (n := 58) (by omega)).1 e14)
    | 15, _ => exact dn a15 15 q3.1
    | 16, _ => exact dn a16 16 q3.2
    | 17, _ => exact decide_eq_true ((u8_eq (n := 58) (by omega)).1 e17)
    | 18, _ => exact dn a18 18 q4.1
    | 19, _ => exact dn a19 19 q4.2
    | 20, _ => exact decide_eq_true ((u8_eq (n := 32) (by omega)).1 e20)
    | 21, _ =>
      refine decide_eq_true ?_
      rcases e21 with e | e
      · exact .inl ((u8_eq (n := 43) (by omega)).1 e)
      · exact .inr ((u8_eq (n := 45) (by omega)).1 e)
    | 22, _ => exact dn a22 22 q5.1
    | 23, _ => exact dn a23 23 q5.2
    | 24, _ => exact dn a24 24 q6.1
    | 25, _ => exact dn a25 25 q6.2
    | n + 26, h => omega
end Go.Proofs.YtkjlkkaoaiphcaaDoor
