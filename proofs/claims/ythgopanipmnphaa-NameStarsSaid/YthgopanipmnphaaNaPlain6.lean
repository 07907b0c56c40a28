/-
  Patterns with pieces of a name. No program is in sight. A part of the proof: see the head of the text that ends in 'Law'.
-/
import Derived.Test.YthgopanipmnphaaNaPlain5
namespace Go.Proofs.Ythgopanipmnphaa
set_option linter.unusedVariables false

/-- The piece from i to k. -/
def midL (t : List UInt8) (i k : Nat) : List UInt8 := (t.drop i).take (k - i)
theorem midL_parts (t : List UInt8) {i k : Nat} (hik : i ≤ k) : t = t.take i ++ (midL t i k ++ t.drop k) := by
  unfold midL
  have h1 : t.drop k = (t.drop i).drop (k - i) := by rw [List.drop_drop]; congr 1; omega
  rw [h1, List.take_append_drop, List.take_append_drop]
theorem midL_len (t : List UInt8) {i k : Nat} (hik : i ≤ k) (hk : k ≤ t.length) : (midL t i k).length = k - i := by
  unfold midL
  rw [List.length_take, List.length_drop]
  omega
theorem star1 {s : List UInt8} (h : isL s = true) (hl : s.length ≤ 50) {i k : Nat} (hik : i ≤ k) (hk : k ≤ (toldL s).length) : metB s ([42] ++ midL (toldL s) i k ++ [42]) = true := by
  have hlen := toldL_length s
  have htame := told_tame h
  have htold := toldI_told h
  rw [metB_name h (by rw [List.length_append, List.length_append, midL_len _ hik hk]; simp; omega)]
  generalize toldL s = t at *
  have hi : inboxL ([42] ++ midL t i k ++ [42]) = [42] ++ midL t i k ++ [42] := inbox_fix (by
    have := toldI_wild htold 0 (c := 42) (by decide) (midL t i k ++ [42])
    rw [List.take_zero, List.nil_append] at this
    exact this)
  rw [hi, mt_iff]
  have hm : ∀ c ∈ midL t i k, wB c = false := fun c hc => htame c (List.mem_of_mem_drop (List.mem_of_mem_take hc))
  have h1 := ((Mt.star (t.take i)).append (Mt.self hm)).append (Mt.star (t.drop k))
  have e : t.take i ++ midL t i k ++ t.drop k = t := by rw [List.append_assoc]; exact (midL_parts t hik).symm
  rw [e] at h1
  exact h1
theorem star2 {s : List UInt8} (h : isL s = true) (hl : s.length ≤ 50) {i : Nat} (hi : i ≤ (toldL s).length) : metB s ((toldL s).take i ++ [42]) = true := by
  have hlen := toldL_length s
  have htame := told_tame h
  have htold := toldI_told h
  rw [metB_name h (by rw [List.length_append, List.length_take]; simp; omega)]
  generalize toldL s = t at *
  rw [inbox_fix (toldI_wild htold i (by decide) []), mt_iff]
  have hm : ∀ c ∈ t.take i, wB c = false := fun c hc => htame c (List.mem_of_mem_take hc)
  have h1 := (Mt.self hm).append (Mt.star (t.drop i))
  rw [List.take_append_drop] at h1
  exact h1
theorem star3 {s : List UInt8} (h : isL s = true) (hl : s.length ≤ 50) {i k : Nat} (hik : i ≤ k) (hk : k ≤ (toldL s).length) (hno : (47 : UInt8) ∉ midL (toldL s) i k) : metB s ((toldL s).take i ++ [37] ++ (toldL s).drop k) = true := by
  have hlen := toldL_length s
  have htame := told_tame h
  have htold := toldI_told h
  rw [metB_name h (by rw [List.length_append, List.length_append, List.length_take, List.length_drop]; simp; omega)]
  generalize toldL s = t at *
  have hi : inboxL (t.take i ++ [37] ++ t.drop k) = t.take i ++ [37] ++ t.drop k := inbox_fix (by
    rw [List.append_assoc]
    exact toldI_wild htold i (by decide) (t.drop k))
  rw [hi, mt_iff]
  have hm : ∀ c ∈ t.take i, wB c = false := fun c hc => htame c (List.mem_of_mem_take hc)
  have hd : ∀ c ∈ t.drop k, wB c = false := fun c hc => htame c (List.mem_of_mem_drop hc)
  have hw : Mt [37] (midL t i k) := (Mt.wild (by decide) _).2 (fun x hx => by
    unfold eatB
    rw [Bool.or_eq_true, bne_iff_ne]
    right
    rintro rfl
    exact hno hx)
  have h1 := ((Mt.self hm).append hw).append (Mt.self hd)
  rw [List.append_assoc (t.take i) (midL t i k), ← midL_parts t hik] at h1
  exact h1
theorem star4 {s y : List UInt8} (h : isL s = true) (ht : isL y = true) (hl : y.length ≤ 50) : underL s y = (metB s (toldL y ++ [47, 42]) && (toldL s != toldL y)) := by
  have hlen := toldL_length y
  have htame := told_tame ht
  have htold := toldI_told ht
  rw [metB_name h (by rw [List.length_append]; simp; omega)]
  unfold underL
  rw [h, ht]
  generalize toldL s = t at *
  generalize toldL y = z at *
  rw [inbox_fix (toldI_stroke htold [42])]
  have hm : ∀ c ∈ z ++ [47], wB c = false := by
    intro c hc
    rcases List.mem_append.1 hc with hc | hc
    · exact htame c hc
    · rw [List.mem_singleton.1 hc]; decide
  have hiff : mt (z ++ [47, 42]) t = true ↔ Lib.hasPrefix t (z ++ [47]) = true := by
    rw [mt_iff]
    unfold Lib.hasPrefix
    rw [List.isPrefixOf_iff_prefix]
    constructor
    · intro hM
      obtain ⟨s1, s2, hs, m1, m2⟩ := hM.split (z ++ [47]) [42] (by simp)
      have h1 := (mt_self _ hm s1).1 ((mt_iff _ _).2 m1)
      exact ⟨s2, by rw [hs, h1]⟩
    · rintro ⟨v, hv⟩
      have h1 := (Mt.self hm).append (Mt.star v)
      rw [hv] at h1
      rw [show z ++ [47, 42] = z ++ [47] ++ [42] by simp]
      exact h1
  rw [bool_iff hiff]
  cases hp : Lib.hasPrefix t (z ++ [47]) with
  | false => rfl
  | true =>
    have hne : (t != z) = true := by
      rw [bne_iff_ne]
      rintro rfl
      unfold Lib.hasPrefix at hp
      have := (List.isPrefixOf_iff_prefix.1 hp).length_le
      rw [List.length_append] at this
      simp at this
      omega
    rw [hne]
    rfl
end Go.Proofs.Ythgopanipmnphaa
