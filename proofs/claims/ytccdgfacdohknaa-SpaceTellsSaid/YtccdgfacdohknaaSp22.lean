/-
  Take at any space: one contract. A part of the proof: see the head of the text that ends in 'Law'.
-/
import Derived.Test.YtccdgfacdohknaaSp21
namespace Go.Proofs.Ytccdgfacdohknaa
open Go.RowKit Go.Shelf
set_option linter.unusedVariables false

/-- A space's flags, or none. -/
def FlO (N : Int) (bits : List UInt8) : Option (List Bool) → Prop
  | none => ¬ ∃ l, Ok5 N bits l
  | some l => Ok5 N bits l
theorem flO (N : Int) (bits : List UInt8) : ∃ o, FlO N bits o := by
  rcases Classical.em (∃ l, Ok5 N bits l) with ⟨l, h⟩ | h
  · exact ⟨some l, h⟩
  · exact ⟨none, h⟩
theorem FlO.pack {l : List Bool} (h : l.length ≤ 2048) : FlO l.length (packL l) (some l) := ⟨rfl, h, rfl⟩
/-- What Take hands back. -/
def takeF : Option (List Bool) → Nat → (List Bool × Nat) × List Nat
  | none, _ => (([], 1), [])
  | some l, k => if (freeL l l.length).length < k then (([], 5), []) else ((markF l (takeL l k), 0), takeL l k)
theorem take_any (N : Int) (A : Option Addr) (n c : Nat) (bits : List UInt8) (k : Nat) (w : World) (o : Option (List Bool)) (hf : FlO N bits o) (ho : Oct w A n bits) (hN : -9223372036854775808 ≤ N ∧ N ≤ 9223372036854775807) (hn : n ≤ 4096) (hk : k ≤ 9223372036854775807) :
    Calls Try.prog 8 #[.agg #[.int .i64 N, .slice A n c], .int .i64 k] w (TakePost w (takeF o k).1 (takeF o k).2) := by
  cases o with
  | none => exact take_bad N A n c bits k w ho hN hn (.inl (mayB_bad hf))
  | some l =>
    obtain ⟨h1, h2, h3⟩ := hf
    subst h1
    subst h3
    unfold takeF
    by_cases h : (freeL l l.length).length < k
    · simp only [if_pos h]
      exact take_full l A n c k w ho h2 h hk
    · simp only [if_neg h]
      exact take_good l A n c k w ho h2 (by omega)
theorem takeF_len (N : Int) (bits : List UInt8) (o : Option (List Bool)) (k : Nat) (hf : FlO N bits o) : (takeF o k).1.1.length ≤ 2048 := by
  cases o with
  | none => exact Nat.zero_le _
  | some l =>
    have h2 : l.length ≤ 2048 := hf.2
    by_cases h : (freeL l l.length).length < k
    · simp [takeF, h]
    · simp [takeF, h, markF_length]
      exact h2

theorem takeF_qlen (N : Int) (bits : List UInt8) (o : Option (List Bool)) (k : Nat) (hf : FlO N bits o) : (takeF o k).2.length ≤ 2048 := by
  cases o with
  | none => exact Nat.zero_le _
  | some l =>
    have h2 : l.length ≤ 2048 := hf.2
    by_cases h : (freeL l l.length).length < k
    · simp [takeF, h]
    · simp only [takeF, h, if_false]
      unfold takeL
      rw [List.length_take]
      have := freeL_len l l.length
      omega

/-- The pages that are free behind a Take. -/
theorem filter_drop (F : List Nat) (hn : F.Nodup) (k : Nat) : F.filter (fun j => !decide (j ∈ F.take k)) = F.drop k := by
  have h1 : ∀ j ∈ F.take k, (fun j => !decide (j ∈ F.take k)) j = false := fun j hj => by simpa using hj
  have h2 : ∀ j ∈ F.drop k, (fun j => !decide (j ∈ F.take k)) j = true := fun j hj => by
    have hn2 : (F.take k ++ F.drop k).Nodup := by rw [List.take_append_drop]; exact hn
    have hd := (List.nodup_append.1 hn2).2.2
    simp only [Bool.not_eq_true', decide_eq_false_iff_not]
    exact fun h => hd j h j hj rfl
  have e : F.filter (fun j => !decide (j ∈ F.take k)) = (F.take k ++ F.drop k).filter (fun j => !decide (j ∈ F.take k)) := by rw [List.take_append_drop]
  rw [e, List.filter_append, List.filter_eq_nil_iff.2 (fun j hj => by have := h1 j hj; simp only at this; rw [this]; simp), List.filter_eq_self.2 h2, List.nil_append]
theorem freeL_mark (l : List Bool) (k : Nat) : freeL (markF l (takeL l k)) l.length = (freeL l l.length).drop k := by
  have h : freeL (markF l (takeL l k)) l.length = (freeL l l.length).filter (fun j => !decide (j ∈ takeL l k)) := by
    unfold freeL
    rw [List.filter_filter]
    apply List.filter_congr
    intro j _
    rw [markF_getD j (takeL l k) l (fun i hi => (takeL_free l k i hi).1)]
    cases l.getD j false <;> simp
  rw [h]
  exact filter_drop _ (freeL_nodup l _) k
theorem takeL_add (l : List Bool) (k n : Nat) : takeL l (k + n) = takeL l k ++ takeL (markF l (takeL l k)) n := by
  unfold takeL
  rw [markF_length]
  show _ = _ ++ (freeL (markF l (takeL l k)) l.length).take n
  rw [freeL_mark, List.take_add]
theorem markF_append (l : List Bool) (p q : List Nat) : markF l (p ++ q) = markF (markF l p) q := by simp [markF]

/-- Taken in two goes. -/
theorem takes_law (o : Option (List Bool)) (k n : Nat) :
    ((takeF o k).1.2 = 0 → (takeF (some (takeF o k).1.1) n).1.2 ≠ 0 → (takeF o (k + n)).1.2 ≠ 0) ∧
    ((takeF o k).1.2 = 0 → (takeF (some (takeF o k).1.1) n).1.2 = 0 → (takeF o (k + n)).1.2 = 0 ∧ (takeF o (k + n)).2 = (takeF o k).2 ++ (takeF (some (takeF o k).1.1) n).2 ∧ (takeF (some (takeF o k).1.1) n).1.1 = (takeF o (k + n)).1.1) := by
  cases o with
  | none => simp [takeF]
  | some l =>
    by_cases h : (freeL l l.length).length < k
    · simp [takeF, h]
    · have e1 : takeF (some l) k = ((markF l (takeL l k), 0), takeL l k) := by simp only [takeF, if_neg h]
      rw [e1]
      have e2 : (freeL (markF l (takeL l k)) (markF l (takeL l k)).length).length = (freeL l l.length).length - k := by rw [markF_length, freeL_mark, List.length_drop]
      by_cases h2 : (freeL l l.length).length - k < n
      · have e3 : takeF (some (markF l (takeL l k))) n = (([], 5), []) := by simp only [takeF, e2, if_pos h2]
        have e4 : takeF (some l) (k + n) = (([], 5), []) := by simp only [takeF, if_pos (show (freeL l l.length).length < k + n by omega)]
        rw [e3, e4]
        simp
      · have e3 : takeF (some (markF l (takeL l k))) n = ((markF (markF l (takeL l k)) (takeL (markF l (takeL l k)) n), 0), takeL (markF l (takeL l k)) n) := by simp only [takeF, e2, if_neg h2]
        have e4 : takeF (some l) (k + n) = ((markF l (takeL l (k + n)), 0), takeL l (k + n)) := by simp only [takeF, if_neg (show ¬ (freeL l l.length).length < k + n by omega)]
        rw [e3, e4, takeL_add, markF_append]
        simp
end Go.Proofs.Ytccdgfacdohknaa
