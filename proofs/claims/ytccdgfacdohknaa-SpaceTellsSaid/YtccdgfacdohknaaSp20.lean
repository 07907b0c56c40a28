/-
  The law's examples come out true. A part of the proof: see the head of the text that ends in 'Law'.
-/
import Derived.Test.YtccdgfacdohknaaSp19
namespace Go.Proofs.Ytccdgfacdohknaa
open Go.RowKit Go.Shelf
set_option linter.unusedVariables false

/-- A variable of the type Space: its box, its octets. -/
structure SpV (W : World) (g : Nat) (N : Int) (A : Option Addr) (n c : Nat) (bits : List UInt8) : Prop where
  bx : OwnC W g 24 [.int .i64 N, .slice A n c]
  o : Oct W A n bits
theorem SpV.below {W W' : World} {g : Nat} {N : Int} {A : Option Addr} {n c : Nat} {bits : List UInt8} (h : SpV W g N A n c bits) (hb : Below W.heap.size W W') : SpV W' g N A n c bits := ⟨h.bx.below hb, h.o.below hb⟩
theorem SpV.k0 {W : World} {g : Nat} {N : Int} {A : Option Addr} {n c : Nat} {bits : List UInt8} (h : SpV W g N A n c bits) : W.cell? ⟨g, 0, none⟩ = some (.int .i64 N) := h.bx.cell rfl
theorem SpV.k1 {W : World} {g : Nat} {N : Int} {A : Option Addr} {n c : Nat} {bits : List UInt8} (h : SpV W g N A n c bits) : W.cell? ⟨g, 1, none⟩ = some (.slice A n c) := h.bx.cell rfl
/-- The world behind a variable's making. -/
abbrev varW (W : World) (N : Int) (A : Option Addr) (n c : Nat) : World := W.alloc (Obj.cells #[.int .i64 N, .slice A n c] 24)
theorem varW_below (W : World) (N : Int) (A : Option Addr) (n c : Nat) : Below W.heap.size W (varW W N A n c) := (Below.refl _ W).alloc (Nat.le_refl _) _
theorem SpV.new_ {W : World} {A : Option Addr} {n : Nat} {bits : List UInt8} (N : Int) (c : Nat) (ho : Oct W A n bits) : SpV (varW W N A n c) W.heap.size N A n c bits :=
  ⟨OwnC.new_ W #[.int .i64 N, .slice A n c] 24, ho.below (varW_below W N A n c)⟩

def L0 : List Bool := [false, false, false, false, false]
def La : List Bool := [true, true, false, false, false]
def Lb : List Bool := [false, true, false, false, false]
def Lc : List Bool := [true, true, true, false, false]
def Ld : List Bool := [true, true, true, true, false]
theorem new5 (w : World) : Calls Try.prog 20 #[.int .i64 5] w fun e w' => ∃ A c, e = .returned (.tuple #[.agg #[.int .i64 5, .slice A 1 c], .int .i64 0]) ∧ Oct w' A 1 (packL L0) ∧ Below w.heap.size w w' :=
  (new_good 5 w (by omega)).mono fun e w' ⟨A, c, he, ho, hb⟩ => ⟨A, c, he, ho, hb⟩
theorem take5 (l l' : List Bool) (q : List Nat) (k m : Nat) (h5 : l.length = 5) (h1 : markF l (takeL l k) = l') (h2 : takeL l k = q) (h5' : l'.length = 5) (hm : q.length = m) (hk : k ≤ (freeL l l.length).length) (A : Option Addr) (c : Nat) (w : World) (ho : Oct w A 1 (packL l)) :
    Calls Try.prog 8 #[.agg #[.int .i64 5, .slice A 1 c], .int .i64 k] w fun e w' => ∃ A' c' A2 c2, e = .returned (.tuple #[.agg #[.int .i64 5, .slice A' 1 c'], .slice A2 m c2, .int .i64 0]) ∧ Oct w' A' 1 (packL l') ∧ IRow w' A2 m (q.map Int.ofNat) ∧ Below w.heap.size w w' := by
  have h := take_good l A 1 c k w ho (by omega) hk
  rw [h5] at h
  rw [h1, h2] at h
  refine h.mono ?_
  rintro e w' ⟨A', c', A2, c2, he, ho', hr, hb⟩
  simp only at he ho'
  rw [h5'] at he ho'
  rw [hm] at he hr
  exact ⟨A', c', A2, c2, he, ho', hr, hb⟩
theorem full5 (l : List Bool) (k : Nat) (h5 : l.length = 5) (hk : (freeL l l.length).length < k) (hk2 : k ≤ 100) (A : Option Addr) (c : Nat) (w : World) (ho : Oct w A 1 (packL l)) :
    Calls Try.prog 8 #[.agg #[.int .i64 5, .slice A 1 c], .int .i64 k] w fun e w' => ∃ A' c' A2 c2, e = .returned (.tuple #[.agg #[.int .i64 0, .slice A' 0 c'], .slice A2 0 c2, .int .i64 5]) ∧ Below w.heap.size w w' := by
  have h := take_full l A 1 c k w ho (by omega) hk (by omega)
  rw [h5] at h
  exact h.mono fun e w' ⟨A', c', A2, c2, he, _, _, hb⟩ => ⟨A', c', A2, c2, he, hb⟩
theorem give5 (l l' : List Bool) (ps : List Int) (m d : Nat) (h5 : l.length = 5) (h1 : turnF l ps true 6 = (l', 0)) (h5' : l'.length = 5) (hm : ps.length = m) (hm2 : m ≤ 5) (A B : Option Addr) (c : Nat) (w : World) (ho : Oct w A 1 (packL l)) (hB : Row w B (ps.map (Value.int .i64))) :
    Calls Try.prog 9 #[.agg #[.int .i64 5, .slice A 1 c], .slice B m d] w fun e w' => ∃ A' c', e = .returned (.tuple #[.agg #[.int .i64 5, .slice A' 1 c'], .int .i64 0]) ∧ Oct w' A' 1 (packL l') ∧ Below w.heap.size w w' := by
  have h := give_of l.length A 1 c (packL l) w B m d _ (l', 0) ho hB (fun W ho' hB' => by rw [← h1]; exact turn_good l A 1 c W B m d ps true 6 ho' (by omega) hB' hm (by omega))
  rw [h5] at h
  refine h.mono ?_
  rintro e w' ⟨A', c', he, ho', hb⟩
  simp only at he ho'
  rw [h5'] at he ho'
  exact ⟨A', c', he, ho', hb⟩
theorem mark5 (l l' : List Bool) (ps : List Int) (m d : Nat) (h5 : l.length = 5) (h1 : turnF l ps false 15 = (l', 0)) (h5' : l'.length = 5) (hm : ps.length = m) (hm2 : m ≤ 5) (A B : Option Addr) (c : Nat) (w : World) (ho : Oct w A 1 (packL l)) (hB : Row w B (ps.map (Value.int .i64))) :
    Calls Try.prog 10 #[.agg #[.int .i64 5, .slice A 1 c], .slice B m d] w fun e w' => ∃ A' c', e = .returned (.tuple #[.agg #[.int .i64 5, .slice A' 1 c'], .int .i64 0]) ∧ Oct w' A' 1 (packL l') ∧ Below w.heap.size w w' := by
  have h := mark_of l.length A 1 c (packL l) w B m d _ (l', 0) ho hB (fun W ho' hB' => by rw [← h1]; exact turn_good l A 1 c W B m d ps false 15 ho' (by omega) hB' hm (by omega))
  rw [h5] at h
  refine h.mono ?_
  rintro e w' ⟨A', c', he, ho', hb⟩
  simp only at he ho'
  rw [h5'] at he ho'
  exact ⟨A', c', he, ho', hb⟩
theorem count5 (A : Option Addr) (c : Nat) (w : World) (ho : Oct w A 1 (packL Ld)) :
    Calls Try.prog 19 #[.agg #[.int .i64 5, .slice A 1 c]] w fun e w' => e = .returned (.int .i64 4) ∧ Below w.heap.size w w' := by
  have h := count_any 5 A 1 c (packL Ld) w ho (by omega) (by omega)
  have h4 : popL (packL Ld) = 4 := by
    have h1 := pop_all Ld
    have h2 : (freeL Ld Ld.length).length = 1 := by decide
    have h3 : Ld.length = 5 := rfl
    omega
  rw [if_pos (mayB_ok (N := 5) (bits := packL Ld) (l := Ld) ⟨rfl, by decide, rfl⟩), h4] at h
  exact h
theorem tkA (A : Option Addr) (c : Nat) (w : World) (ho : Oct w A 1 (packL L0)) : Calls Try.prog 8 #[.agg #[.int .i64 5, .slice A 1 c], .int .i64 2] w fun e w' => ∃ A' c' A2 c2, e = .returned (.tuple #[.agg #[.int .i64 5, .slice A' 1 c'], .slice A2 2 c2, .int .i64 0]) ∧ Oct w' A' 1 (packL La) ∧ IRow w' A2 2 [0, 1] ∧ Below w.heap.size w w' :=
  take5 L0 La [0, 1] 2 2 rfl (by decide) (by decide) rfl rfl (by decide) A c w ho
theorem tkB (A : Option Addr) (c : Nat) (w : World) (ho : Oct w A 1 (packL Lb)) : Calls Try.prog 8 #[.agg #[.int .i64 5, .slice A 1 c], .int .i64 2] w fun e w' => ∃ A' c' A2 c2, e = .returned (.tuple #[.agg #[.int .i64 5, .slice A' 1 c'], .slice A2 2 c2, .int .i64 0]) ∧ Oct w' A' 1 (packL Lc) ∧ IRow w' A2 2 [0, 2] ∧ Below w.heap.size w w' :=
  take5 Lb Lc [0, 2] 2 2 rfl (by decide) (by decide) rfl rfl (by decide) A c w ho
theorem tkF (A : Option Addr) (c : Nat) (w : World) (ho : Oct w A 1 (packL Lc)) : Calls Try.prog 8 #[.agg #[.int .i64 5, .slice A 1 c], .int .i64 3] w fun e w' => ∃ A' c' A2 c2, e = .returned (.tuple #[.agg #[.int .i64 0, .slice A' 0 c'], .slice A2 0 c2, .int .i64 5]) ∧ Below w.heap.size w w' :=
  full5 Lc 3 rfl (by decide) (by omega) A c w ho
theorem gvA (A B : Option Addr) (c d : Nat) (w : World) (ho : Oct w A 1 (packL La)) (hB : Row w B [.int .i64 0]) : Calls Try.prog 9 #[.agg #[.int .i64 5, .slice A 1 c], .slice B 1 d] w fun e w' => ∃ A' c', e = .returned (.tuple #[.agg #[.int .i64 5, .slice A' 1 c'], .int .i64 0]) ∧ Oct w' A' 1 (packL Lb) ∧ Below w.heap.size w w' :=
  give5 La Lb [0] 1 d rfl (by decide) rfl rfl (by omega) A B c w ho hB
theorem mkC (A B : Option Addr) (c d : Nat) (w : World) (ho : Oct w A 1 (packL Lc)) (hB : Row w B [.int .i64 3]) : Calls Try.prog 10 #[.agg #[.int .i64 5, .slice A 1 c], .slice B 1 d] w fun e w' => ∃ A' c', e = .returned (.tuple #[.agg #[.int .i64 5, .slice A' 1 c'], .int .i64 0]) ∧ Oct w' A' 1 (packL Ld) ∧ Below w.heap.size w w' :=
  mark5 Lc Ld [3] 1 d rfl (by decide) rfl rfl (by omega) A B c w ho hB
theorem mkA (A B : Option Addr) (c d : Nat) (w : World) (ho : Oct w A 1 (packL La)) (hB : Row w B [.int .i64 2]) : Calls Try.prog 10 #[.agg #[.int .i64 5, .slice A 1 c], .slice B 1 d] w fun e w' => ∃ A' c', e = .returned (.tuple #[.agg #[.int .i64 5, .slice A' 1 c'], .int .i64 0]) ∧ Oct w' A' 1 (packL Lc) ∧ Below w.heap.size w w' :=
  mark5 La Lc [2] 1 d rfl (by decide) rfl rfl (by omega) A B c w ho hB
theorem packLc : packL Lc = [7] := by decide +kernel
theorem strLc : (str [7] == (⟨#[7]⟩ : ByteArray)) = true := by decide +kernel
end Go.Proofs.Ytccdgfacdohknaa
