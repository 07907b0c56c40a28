/-
  A text cut at a sign: the library's pieces are the document's: plain Lean, no program in sight. A part of the proof: see the head of the text that ends in 'Law'.
-/
import Derived.Test.YtkjlkkaoaiphcaaDoorDa6
namespace Go.Proofs.YtkjlkkaoaiphcaaDoor
open Go.RowKit Go.Shelf
set_option linter.unusedVariables false

/-- An octet ahead of the first piece. -/
def consH (x : UInt8) (ps : List (List UInt8)) : List (List UInt8) := match ps with | [] => [[x]] | p :: r => (x :: p) :: r
/-- The pieces, from the front. -/
def splitF (c : UInt8) : List UInt8 → List (List UInt8)
  | [] => [[]]
  | x :: l => if x = c then [] :: splitF c l else consH x (splitF c l)
theorem splitF_ne (c : UInt8) (l : List UInt8) : splitF c l ≠ [] := by
  cases l with
  | nil => simp [splitF]
  | cons x l =>
    unfold splitF
    split
    · simp
    · unfold consH
      split <;> simp
theorem index_sign (c x : UInt8) (l : List UInt8) : Lib.index (x :: l) [c] = if x = c then 0 else if Lib.index l [c] == -1 then -1 else Lib.index l [c] + 1 := by
  rw [Lib.index]
  have : List.isPrefixOf [c] (x :: l) = decide (x = c) := by
    simp only [List.isPrefixOf, Bool.and_true]
    rw [Bool.eq_iff_iff, beq_iff_eq, decide_eq_true_eq]
    exact eq_comm
  rw [this]
  by_cases h : x = c
  · simp [h]
  · simp [h]
theorem split_is (c : UInt8) : ∀ l : List UInt8, Lib.splitK [c] 0 (Lib.count l [c]) l = splitF c l
  | [] => by
    have h : Lib.index [] [c] = -1 := by rfl
    rw [Lib.count_miss h]
    rfl
  | x :: l => by
    have ih := split_is c l
    have hi := index_sign c x l
    by_cases hx : x = c
    · rw [if_pos hx] at hi
      rw [Lib.count_hit (i := 0) (by simp) hi, Nat.add_comm, Lib.splitK, hi]
      simp only [splitF]
      rw [if_pos hx]
      have e : ((0 : Int) == -1) = false := rfl
      rw [e]
      simp only [List.length_cons, List.length_nil, Nat.zero_add, Int.toNat_zero, Nat.add_zero, List.drop_succ_cons, List.drop_zero, List.take_zero]
      rw [if_neg (by simp), ih]
    · rw [if_neg hx] at hi
      simp only [splitF]
      rw [if_neg hx, ← ih]
      by_cases hm : Lib.index l [c] = -1
      · rw [hm] at hi
        rw [Lib.count_miss hm, Lib.count_miss (hi.trans rfl)]
        rfl
      · obtain ⟨i, hi2⟩ : ∃ i : Nat, Lib.index l [c] = i := ⟨(Lib.index l [c]).toNat, by have := Lib.index_ge l [c]; omega⟩
        rw [hi2] at hi
        have e1 : ((i : Int) == -1) = false := by rw [beq_eq_false_iff_ne]; omega
        rw [e1] at hi
        have hi' : Lib.index (x :: l) [c] = ((i + 1 : Nat) : Int) := by rw [hi, if_neg (by simp)]; omega
        rw [Lib.count_hit (by simp) hi', Lib.count_hit (by simp) hi2, Nat.add_comm 1, Nat.add_comm 1, Lib.splitK, Lib.splitK, hi', hi2, e1]
        have e2 : (((i + 1 : Nat) : Int) == -1) = false := by rw [beq_eq_false_iff_ne]; omega
        rw [e2, if_neg (by simp), if_neg (by simp)]
        simp only [Int.toNat_natCast, Nat.add_zero, List.length_cons, List.length_nil, Nat.zero_add]
        rw [show i + 1 + 1 = (i + 1) + 1 by rfl, List.drop_succ_cons, List.take_succ_cons]
        rfl
/-- The document's pieces, on pieces that are there. -/
theorem cut_from (c : UInt8) : ∀ (l : List UInt8) (a : List (List UInt8)) (p : List UInt8), l.foldl (fun acc x => cutX c x acc) (a ++ [p]) = a ++ (match splitF c l with | [] => [p] | q :: r => (p ++ q) :: r)
  | [], a, p => by simp [splitF]
  | x :: l, a, p => by
    rw [List.foldl_cons]
    by_cases hx : x = c
    · have e : cutX c x (a ++ [p]) = (a ++ [p]) ++ [[]] := by unfold cutX; rw [if_pos hx]
      rw [e, cut_from c l (a ++ [p]) []]
      simp only [splitF]
      rw [if_pos hx]
      have := splitF_ne c l
      match h : splitF c l with
      | [] => exact absurd h this
      | q :: r => simp
    · have e : cutX c x (a ++ [p]) = a ++ [p ++ [x]] := by
        unfold cutX
        rw [if_neg hx]
        simp [List.getD]
      rw [e, cut_from c l a (p ++ [x])]
      simp only [splitF]
      rw [if_neg hx]
      have := splitF_ne c l
      match h : splitF c l with
      | [] => exact absurd h this
      | q :: r => simp [consH]
theorem cut_is (c : UInt8) (l : List UInt8) : cutF c l = splitF c l := by
  have h := cut_from c l [] []
  unfold cutF
  rw [show ([[]] : List (List UInt8)) = [] ++ [[]] by rfl, h]
  have := splitF_ne c l
  match h : splitF c l with
  | [] => exact absurd h this
  | q :: r => simp
theorem splitB_is (c : UInt8) (l : List UInt8) : (Lib.splitB (str [c]) 0 (Lib.countB (str l) (str [c])) (str l)).map Value.string = (cutF c l).map SV := by
  have h := Lib.splitB_data (str [c]) 0 (Lib.countB (str l) (str [c])) (str l)
  rw [show (str [c]).data.toList = [c] from str_toList _, show (str l).data.toList = l from str_toList l, show Lib.countB (str l) (str [c]) = Lib.count l [c] by unfold Lib.countB; rw [show (str [c]).data.toList = [c] from str_toList _, show (str l).data.toList = l from str_toList l], split_is, ← cut_is] at h
  rw [← h, List.map_map]
  rw [show Lib.countB (str l) (str [c]) = Lib.count l [c] by unfold Lib.countB; rw [show (str [c]).data.toList = [c] from str_toList _, show (str l).data.toList = l from str_toList l]]
  refine List.map_congr_left fun b _ => ?_
  show Value.string b = Value.string (str b.data.toList)
  congr 1
theorem cut_count (c : UInt8) (l : List UInt8) : Lib.countB (str l) (str [c]) + 1 = (cutF c l).length := by
  have h := Lib.splitB_all (str [c]) (show 1 ≤ (str [c]).size from Nat.le_refl 1) 0 _ (str l) rfl
  have e := congrArg List.length (splitB_is c l)
  rw [List.length_map, List.length_map] at e
  omega
theorem splitF_mem (c : UInt8) : ∀ l : List UInt8, ∀ p ∈ splitF c l, p.length ≤ l.length
  | [], p, h => by simp [splitF] at h; simp [h]
  | x :: l, p, h => by
    have ih := splitF_mem c l
    simp only [splitF] at h
    split at h
    · rcases List.mem_cons.1 h with rfl | h
      · simp
      · exact Nat.le_trans (ih p h) (by simp)
    · unfold consH at h
      match hs : splitF c l with
      | [] => exact absurd hs (splitF_ne c l)
      | q :: r =>
        rw [hs] at h ih
        simp only [List.mem_cons] at h
        rcases h with rfl | h
        · have := ih q List.mem_cons_self
          simp; omega
        · exact Nat.le_trans (ih p (List.mem_cons_of_mem _ h)) (by simp)
end Go.Proofs.YtkjlkkaoaiphcaaDoor
