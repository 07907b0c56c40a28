/-
  Pages of pairs, in plain Lean. A part of the proof: see the head of the text that ends in 'Law'.
-/
import Derived.Test.YtlhngieinmgooaaOctRefNum
import Derived.Test.YtlhngieinmgooaaCrcRef
namespace Go.Proofs.Ytlhngieinmgooaa
open Go.RowKit
set_option linter.unusedVariables false

/-- A pair, and a kid. -/
structure Pa where
  key : Nat
  val : Nat
deriving DecidableEq
structure Kd where
  least : Nat
  at_ : Nat
deriving DecidableEq
def Pa.ok (p : Pa) : Prop := p.key < 18446744073709551616 ∧ p.val < 18446744073709551616
def Pa.o (p : Pa) : List UInt8 := putL p.key 8 ++ putL p.val 8
def Kd.o (k : Kd) : List UInt8 := putL k.least 8 ++ putL k.at_ 2
theorem Pa.o_len (p : Pa) : p.o.length = 16 := by unfold Pa.o; rw [List.length_append, putL_length, putL_length]
theorem Kd.o_len (k : Kd) : k.o.length = 10 := by unfold Kd.o; rw [List.length_append, putL_length, putL_length]
def padP (l : List UInt8) : List UInt8 := l ++ List.replicate (128 - l.length) 0
def pageP (l : List UInt8) : List UInt8 := padP (l ++ le4 (sumL l))
theorem pageP_len (l : List UInt8) (h : l.length ≤ 124) : (pageP l).length = 128 := by
  unfold pageP padP
  rw [List.length_append, List.length_replicate, List.length_append, le4_length]
  omega
def leafL (ps : List Pa) : List UInt8 := [1, UInt8.ofNat ps.length] ++ ps.flatMap Pa.o
def innerL (ks : List Kd) : List UInt8 := [2, UInt8.ofNat ks.length] ++ ks.flatMap Kd.o
theorem flat_len {α : Type} (f : α → List UInt8) (k : Nat) (h : ∀ a, (f a).length = k) : ∀ l : List α, (l.flatMap f).length = l.length * k
  | [] => by simp
  | a :: l => by rw [List.flatMap_cons, List.length_append, h, flat_len f k h l, List.length_cons, Nat.add_mul]; omega
theorem leafL_len (ps : List Pa) : (leafL ps).length = 2 + ps.length * 16 := by
  unfold leafL
  rw [List.length_append, flat_len _ 16 Pa.o_len]
  rfl
theorem innerL_len (ks : List Kd) : (innerL ks).length = 2 + ks.length * 10 := by
  unfold innerL
  rw [List.length_append, flat_len _ 10 Kd.o_len]
  rfl
/-- Some at a time. -/
def chunkF {α : Type} (k : Nat) : Nat → List α → List (List α)
  | 0, _ => []
  | f + 1, l => if l.isEmpty = true then [] else l.take k :: chunkF k f (l.drop k)
def chunks {α : Type} (k : Nat) (l : List α) : List (List α) := chunkF k l.length l
theorem chunkF_more {α : Type} (k : Nat) (hk : 0 < k) : ∀ (f g : Nat) (l : List α), l.length ≤ f → l.length ≤ g → chunkF k f l = chunkF k g l
  | 0, 0, l, _, _ => rfl
  | 0, g + 1, l, h, _ => by
    have : l = [] := List.eq_nil_of_length_eq_zero (by omega)
    subst this
    rfl
  | f + 1, 0, l, _, h => by
    have : l = [] := List.eq_nil_of_length_eq_zero (by omega)
    subst this
    rfl
  | f + 1, g + 1, l, h1, h2 => by
    unfold chunkF
    cases l with
    | nil => rfl
    | cons a l =>
      rw [if_neg (by simp), if_neg (by simp)]
      congr 1
      exact chunkF_more k hk f g _ (by rw [List.length_drop]; simp at h1 ⊢; omega) (by rw [List.length_drop]; simp at h2 ⊢; omega)
theorem chunks_nil {α : Type} (k : Nat) : chunks k ([] : List α) = [] := rfl
theorem chunks_cons {α : Type} (k : Nat) (hk : 0 < k) (l : List α) (h : l ≠ []) : chunks k l = l.take k :: chunks k (l.drop k) := by
  unfold chunks
  cases l with
  | nil => exact absurd rfl h
  | cons a l =>
    rw [List.length_cons, chunkF, if_neg (by simp)]
    congr 1
    exact chunkF_more k hk _ _ _ (by rw [List.length_drop]; simp; omega) (Nat.le_refl _)
theorem list_ind_len {α : Type} {P : List α → Prop} (h : ∀ l, (∀ m : List α, m.length < l.length → P m) → P l) (l : List α) : P l := by
  have : ∀ n (l : List α), l.length ≤ n → P l := fun n => by
    induction n with
    | zero => intro l hl; exact h l (fun m hm => absurd hm (by omega))
    | succ n ih => intro l hl; exact h l (fun m hm => ih m (by omega))
  exact this l.length l (Nat.le_refl _)
theorem chunks_len {α : Type} (k : Nat) (hk : 0 < k) (l : List α) : (chunks k l).length = (l.length + k - 1) / k := by
  induction l using list_ind_len with
  | h l ih =>
    by_cases h : l = []
    · subst h
      rw [chunks_nil]
      simp
      rw [Nat.div_eq_of_lt (show k - 1 < k by omega)]
    · have h0 : 0 < l.length := List.length_pos_iff.2 h
      rw [chunks_cons k hk l h, List.length_cons, ih _ (by rw [List.length_drop]; omega), List.length_drop]
      rcases Nat.le_total l.length k with h1 | h1
      · have e0 : l.length - k + k - 1 = k - 1 := by omega
        have e1 : l.length + k - 1 = (l.length - 1) + k := by omega
        rw [e0, e1, Nat.add_div_right _ hk, Nat.div_eq_of_lt (show k - 1 < k by omega), Nat.div_eq_of_lt (show l.length - 1 < k by omega)]
      · have e1 : l.length + k - 1 = (l.length - k + k - 1) + k := by omega
        rw [e1, Nat.add_div_right _ hk]
theorem chunks_flat {α : Type} (k : Nat) (hk : 0 < k) (l : List α) : (chunks k l).flatten = l := by
  induction l using list_ind_len with
  | h l ih =>
    by_cases h : l = []
    · subst h; rfl
    · have h0 : 0 < l.length := List.length_pos_iff.2 h
      rw [chunks_cons k hk l h, List.flatten_cons, ih _ (by rw [List.length_drop]; omega), List.take_append_drop]
theorem chunks_mem {α : Type} (k : Nat) (hk : 0 < k) (l : List α) : ∀ c ∈ chunks k l, c ≠ [] ∧ c.length ≤ k := by
  induction l using list_ind_len with
  | h l ih =>
    intro c hc
    by_cases h : l = []
    · subst h; rw [chunks_nil] at hc; cases hc
    · have h0 : 0 < l.length := List.length_pos_iff.2 h
      rw [chunks_cons k hk l h] at hc
      rcases List.mem_cons.1 hc with rfl | hc
      · refine ⟨?_, by rw [List.length_take]; omega⟩
        intro e
        have := congrArg List.length e
        rw [List.length_take, List.length_nil] at this
        omega
      · exact ih _ (by rw [List.length_drop]; omega) c hc
/-- How many of at most so many hold so many. -/
def aboveN (n m : Nat) : Nat := if 1 < (n + m - 1) / m then (n + m - 1) / m else 1
def leafC (l : List Pa) : List (List Pa) := if l.isEmpty = true then [[]] else chunks 7 l
def leastP (ps : List Pa) : Nat := match ps with
  | [] => 0
  | p :: _ => p.key
def leastK (ks : List Kd) : Nat := match ks with
  | [] => 0
  | k :: _ => k.least
def kidsP : Nat → List (List Pa) → List Kd
  | _, [] => []
  | i, c :: r => ⟨leastP c, i⟩ :: kidsP (i + 1) r
def kidsK : Nat → List (List Kd) → List Kd
  | _, [] => []
  | i, c :: r => ⟨leastK c, i⟩ :: kidsK (i + 1) r
theorem kidsP_len : ∀ (cs : List (List Pa)) (i : Nat), (kidsP i cs).length = cs.length
  | [], i => rfl
  | c :: r, i => by rw [kidsP, List.length_cons, kidsP_len r, List.length_cons]
theorem kidsK_len : ∀ (cs : List (List Kd)) (i : Nat), (kidsK i cs).length = cs.length
  | [], i => rfl
  | c :: r, i => by rw [kidsK, List.length_cons, kidsK_len r, List.length_cons]
theorem kidsP_snoc : ∀ (cs : List (List Pa)) (c : List Pa) (i : Nat), kidsP i (cs ++ [c]) = kidsP i cs ++ [⟨leastP c, i + cs.length⟩]
  | [], c, i => rfl
  | d :: r, c, i => by
    rw [List.cons_append, kidsP, kidsP_snoc r c (i + 1), kidsP, List.length_cons, show i + 1 + r.length = i + (r.length + 1) by omega]
    rfl
theorem kidsK_snoc : ∀ (cs : List (List Kd)) (c : List Kd) (i : Nat), kidsK i (cs ++ [c]) = kidsK i cs ++ [⟨leastK c, i + cs.length⟩]
  | [], c, i => rfl
  | d :: r, c, i => by
    rw [List.cons_append, kidsK, kidsK_snoc r c (i + 1), kidsK, List.length_cons, show i + 1 + r.length = i + (r.length + 1) by omega]
    rfl
/-- Level on level. -/
def levF : Nat → List (List UInt8) → List Kd → List (List UInt8)
  | 0, out, _ => out
  | f + 1, out, lv => if lv.length ≤ 1 then out else levF f (out ++ (chunks 12 lv).map fun c => pageP (innerL c)) (kidsK out.length (chunks 12 lv))
def leavesL (l : List Pa) : List (List UInt8) := (leafC l).map fun c => pageP (leafL c)
def buildP (l : List Pa) : List (List UInt8) := levF (leafC l).length (leavesL l) (kidsP 0 (leafC l))
theorem levF_more : ∀ (f g : Nat) (out : List (List UInt8)) (lv : List Kd), lv.length ≤ f → lv.length ≤ g → levF f out lv = levF g out lv
  | 0, 0, _, _, _, _ => rfl
  | 0, g + 1, out, lv, h, _ => by rw [levF, levF, if_pos (by omega)]
  | f + 1, 0, out, lv, _, h => by rw [levF, levF, if_pos (by omega)]
  | f + 1, g + 1, out, lv, h1, h2 => by
    rw [levF, levF]
    by_cases h : lv.length ≤ 1
    · rw [if_pos h, if_pos h]
    · rw [if_neg h, if_neg h]
      have hl : (kidsK out.length (chunks 12 lv)).length ≤ lv.length - 1 := by
        rw [kidsK_len, chunks_len 12 (by omega)]
        omega
      exact levF_more f g _ _ (by omega) (by omega)
theorem levF_step (f : Nat) (out : List (List UInt8)) (lv : List Kd) (h : lv.length ≤ f) (h1 : 1 < lv.length) : levF f out lv = levF f (out ++ (chunks 12 lv).map fun c => pageP (innerL c)) (kidsK out.length (chunks 12 lv)) := by
  cases f with
  | zero => omega
  | succ f =>
    have hl : (kidsK out.length (chunks 12 lv)).length ≤ lv.length - 1 := by
      rw [kidsK_len, chunks_len 12 (by omega)]
      omega
    conv => lhs; rw [levF, if_neg (by omega)]
    exact levF_more f (f + 1) _ _ (by omega) (by omega)
theorem levF_done (f : Nat) (out : List (List UInt8)) (lv : List Kd) (h1 : lv.length ≤ 1) : levF f out lv = out := by
  cases f with
  | zero => rfl
  | succ f => rw [levF, if_pos h1]
/-- May pairs be laid down? -/
def ascB : List Pa → Bool
  | p :: q :: r => decide (p.key < q.key) && ascB (q :: r)
  | _ => true
def mayP (l : List Pa) : Bool := ascB l && decide (l.length ≤ 600)
theorem leafC_len (l : List Pa) : (leafC l).length = aboveN l.length 7 := by
  unfold leafC aboveN
  cases l with
  | nil => rfl
  | cons a l =>
    rw [if_neg (by simp), chunks_len 7 (by omega)]
    split
    · rfl
    · rename_i h
      simp only [List.length_cons] at h ⊢
      omega
/-- How many pages. -/
def pagesF : Nat → Nat → Nat
  | 0, lv => lv
  | f + 1, lv => if lv ≤ 1 then lv else lv + pagesF f (aboveN lv 12)
theorem levF_len : ∀ (f : Nat) (out : List (List UInt8)) (lv : List Kd) (b : Nat), lv.length ≤ f → 1 ≤ lv.length → out.length = b + lv.length → (levF f out lv).length = b + pagesF f lv.length
  | 0, out, lv, b, h, h1, ho => by omega
  | f + 1, out, lv, b, h, h1, ho => by
    rw [levF, pagesF]
    by_cases hl : lv.length ≤ 1
    · rw [if_pos hl, if_pos hl, ho]
    · have hc : (chunks 12 lv).length = aboveN lv.length 12 := by
        rw [chunks_len 12 (by omega)]
        unfold aboveN
        split <;> omega
      have ha : 1 ≤ aboveN lv.length 12 ∧ aboveN lv.length 12 ≤ lv.length - 1 := by
        unfold aboveN
        split <;> omega
      rw [if_neg hl, if_neg hl, levF_len f _ _ (b + lv.length) (by rw [kidsK_len, hc]; omega) (by rw [kidsK_len, hc]; omega) (by rw [List.length_append, List.length_map, kidsK_len, ho]), kidsK_len, hc]
      omega
theorem build_len (l : List Pa) : (buildP l).length = pagesF (aboveN l.length 7) (aboveN l.length 7) := by
  unfold buildP
  have h1 : 1 ≤ (leafC l).length := by
    rw [leafC_len]
    unfold aboveN
    split <;> omega
  rw [levF_len _ _ _ 0 (by rw [kidsP_len]; exact Nat.le_refl _) (by rw [kidsP_len]; exact h1) (by unfold leavesL; rw [List.length_map, kidsP_len, Nat.zero_add]), kidsP_len, leafC_len, Nat.zero_add]
end Go.Proofs.Ytlhngieinmgooaa
