/-
  Names, as the program tells them from others. No program is in sight. A part of the proof: see the head of the text that ends in 'Law'.
-/
import Derived.Test.YthgopanipmnphaaNaPlain
namespace Go.Proofs.Ythgopanipmnphaa
set_option linter.unusedVariables false

/-- Is it one of the signs that a name may not have? -/
def spB (n : Nat) : Bool := [40, 41, 123, 125, 37, 42, 34, 92].contains n
theorem spB_index (x : UInt8) : decide (0 ≤ Lib.indexByte [40, 41, 123, 125, 37, 42, 34, 92] x) = spB x.toNat := by
  have h : ∀ n : Fin 256, decide (0 ≤ Lib.indexByte [40, 41, 123, 125, 37, 42, 34, 92] (UInt8.ofNat n.val)) = spB n.val := by decide +kernel
  have := h ⟨x.toNat, x.toNat_lt⟩
  simpa using this
theorem okN_sp (n : Nat) : okN n = !(decide ((n : Int) < 33) || decide ((126 : Int) < n) || spB n) := by
  rw [okN_b]
  have : spB n = (((n : Int) == 40) || ((n : Int) == 41) || ((n : Int) == 123) || ((n : Int) == 125) || ((n : Int) == 37) || ((n : Int) == 42) || ((n : Int) == 34) || ((n : Int) == 92)) := by
    unfold spB
    rw [Bool.eq_iff_iff]
    simp
    omega
  rw [this]
  simp [Bool.or_assoc]
theorem contains_two (l : List UInt8) : Lib.contains l [47, 47] = true ↔ ∃ i : Nat, l[i]? = some (47 : UInt8) ∧ l[i + 1]? = some (47 : UInt8) := by
  have hocc : ∀ i : Nat, Lib.occAt l [47, 47] i = true ↔ (l[i]? = some (47 : UInt8) ∧ l[i + 1]? = some (47 : UInt8)) := by
    intro i
    unfold Lib.occAt
    rw [← List.getElem?_drop (xs := l) (i := i) (j := 1)]
    have h0 : l[i]? = (l.drop i)[0]? := by rw [List.getElem?_drop, Nat.add_zero]
    rw [h0]
    cases h : l.drop i with
    | nil => simp
    | cons a t =>
      cases t with
      | nil => simp
      | cons b u => simp; constructor <;> (rintro ⟨rfl, rfl⟩; exact ⟨rfl, rfl⟩)
  unfold Lib.contains
  rw [decide_eq_true_eq]
  rcases Lib.index_spec l [47, 47] with ⟨h1, h2⟩ | ⟨i, h1, h2, h3, _⟩
  · rw [h1]
    constructor
    · intro h; omega
    · rintro ⟨i, hi, hi2⟩
      have := h2 i (by have := (List.getElem?_eq_some_iff.1 hi).1; omega)
      rw [(hocc i).2 ⟨hi, hi2⟩] at this
      cases this
  · rw [h1]
    constructor
    · intro _
      exact ⟨i, (hocc i).1 h3⟩
    · intro _; omega
theorem getD_some {l : List UInt8} {i : Nat} {x : UInt8} (h : l[i]? = some x) : l.getD i 0 = x := by rw [List.getD_eq_getElem?_getD, h]; rfl
theorem toNat47 {x : UInt8} (h : x.toNat = 47) : x = 47 := UInt8.toNat_inj.1 h
theorem isL_empty : isL [] = false := rfl
theorem isL_long {l : List UInt8} (h : 60 < l.length) : isL l = false := decide_eq_false (by rintro ⟨_, h2, _⟩; omega)
theorem isL_first {l : List UInt8} (h0 : 0 < l.length) (h : (l.getD 0 0).toNat = 47) : isL l = false := isL_bad h0 (.inr (decide_eq_true ⟨h, .inl rfl⟩))
theorem isL_last {l : List UInt8} (h0 : 0 < l.length) (h : (l.getD (l.length - 1) 0).toNat = 47) : isL l = false := isL_bad (k := l.length - 1) (by omega) (.inr (decide_eq_true ⟨h, .inr (.inl (by omega))⟩))
theorem isL_two {l : List UInt8} (h : Lib.contains l [47, 47] = true) : isL l = false := by
  obtain ⟨i, h1, h2⟩ := (contains_two l).1 h
  exact isL_bad (k := i + 1) (List.getElem?_eq_some_iff.1 h2).1 (.inr (decide_eq_true ⟨by rw [getD_some h2]; rfl, .inr (.inr (by rw [Nat.add_sub_cancel, getD_some h1]; rfl))⟩))
theorem isL_good {l : List UInt8} (h0 : 0 < l.length) (h60 : l.length ≤ 60) (hf : (l.getD 0 0).toNat ≠ 47) (hl : (l.getD (l.length - 1) 0).toNat ≠ 47) (hc : Lib.contains l [47, 47] = false) (hok : ∀ i, i < l.length → okN (l.getD i 0).toNat = true) : isL l = true := by
  refine decide_eq_true ⟨h0, h60, fun i hi => ⟨hok i hi, decide_eq_false ?_⟩⟩
  rintro ⟨h, h1 | h1 | h1⟩
  · subst h1; exact hf h
  · obtain rfl : i = l.length - 1 := by omega
    exact hl h
  · have hi0 : i ≠ 0 := by rintro rfl; exact hf h
    have : Lib.contains l [47, 47] = true := (contains_two l).2 ⟨i - 1, by
      have h2 : i - 1 < l.length := by omega
      rw [List.getD_eq_getElem?_getD, List.getElem?_eq_getElem h2] at h1
      rw [List.getElem?_eq_getElem h2]; exact congrArg some (toNat47 h1), by
      rw [show i - 1 + 1 = i by omega, List.getElem?_eq_getElem hi]
      rw [List.getD_eq_getElem?_getD, List.getElem?_eq_getElem hi] at h
      exact congrArg some (toNat47 h)⟩
    rw [hc] at this
    cases this
end Go.Proofs.Ythgopanipmnphaa
