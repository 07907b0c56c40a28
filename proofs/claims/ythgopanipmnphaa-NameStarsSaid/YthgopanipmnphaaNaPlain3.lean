/-
  The first level of a text; INBOX. No program is in sight. A part of the proof: see the head of the text that ends in 'Law'.
-/
import Derived.Test.YthgopanipmnphaaNa4
namespace Go.Proofs.Ythgopanipmnphaa
set_option linter.unusedVariables false

/-- The first level. -/
def firstL (l : List UInt8) : List UInt8 := l.takeWhile (· != 47)
theorem cutG_head : ∀ (l : List UInt8) (acc : List (List UInt8)) (q : List UInt8), acc.head? = some q → (l.foldl (fun acc x => cutX 47 x acc) acc).head? = some (if acc.length = 1 then q ++ firstL l else q)
  | [], acc, q, h => by
    simp only [List.foldl_nil, firstL, List.takeWhile_nil, List.append_nil, ite_self]
    exact h
  | x :: l, acc, q, h => by
    obtain ⟨r, rfl⟩ : ∃ r, acc = q :: r := by
      cases acc with
      | nil => cases h
      | cons a r => exact ⟨r, by simpa using h⟩
    rw [List.foldl_cons]
    by_cases hx : x = 47
    · have h1 : cutX 47 x (q :: r) = q :: (r ++ [[]]) := by unfold cutX; rw [if_pos hx]; rfl
      rw [h1, cutG_head l _ q rfl, if_neg (by simp)]
      subst hx
      have : firstL (47 :: l) = [] := rfl
      rw [this, List.append_nil, ite_self]
    · have hf : firstL (x :: l) = x :: firstL l := by
        unfold firstL
        rw [List.takeWhile_cons, if_pos (by simpa using hx)]
      cases r with
      | nil =>
        have h1 : cutX 47 x [q] = [q ++ [x]] := by unfold cutX; rw [if_neg hx]; rfl
        rw [h1, cutG_head l _ (q ++ [x]) rfl, hf]
        simp
      | cons b r =>
        have h1 : ∃ r', cutX 47 x (q :: b :: r) = q :: r' ∧ r'.length = r.length + 1 := by
          unfold cutX
          rw [if_neg hx]
          exact ⟨(b :: r).set r.length _, rfl, by simp⟩
        obtain ⟨r', h1, h2⟩ := h1
        rw [h1, cutG_head l _ q rfl, if_neg (by simp; intro h; rw [h] at h2; simp at h2), if_neg (by simp)]
theorem cutF_head (l : List UInt8) : (cutF 47 l)[0]? = some (firstL l) := by
  have := cutG_head l [[]] [] rfl
  rw [← List.head?_eq_getElem?]
  show (l.foldl (fun acc x => cutX 47 x acc) [[]]).head? = _
  simpa using this
theorem index_first47 : ∀ l : List UInt8, (Lib.indexByte l 47 = -1 ∧ firstL l = l) ∨ (∃ i : Nat, Lib.indexByte l 47 = i ∧ firstL l = l.take i)
  | [] => .inl ⟨rfl, rfl⟩
  | b :: l => by
    unfold Lib.indexByte
    by_cases hb : b = 47
    · subst hb
      exact .inr ⟨0, rfl, rfl⟩
    · have hbb : (b == 47) = false := by simpa using hb
      rw [hbb]
      have hf : firstL (b :: l) = b :: firstL l := by
        unfold firstL
        rw [List.takeWhile_cons, if_pos (by simpa using hb)]
      rcases index_first47 l with ⟨h1, h2⟩ | ⟨i, h1, h2⟩
      · rw [h1, hf, h2]
        exact .inl ⟨rfl, rfl⟩
      · rw [h1, hf, h2]
        refine .inr ⟨i + 1, ?_, by simp⟩
        rw [show ((i : Int) == -1) = false by rw [beq_eq_false_iff_ne]; omega]
        simp
theorem libcut_first (l : List UInt8) : (Lib.cut l [47]).1 = firstL l := by
  unfold Lib.cut
  rw [Lib.index_one]
  rcases index_first47 l with ⟨h1, h2⟩ | ⟨i, h1, h2⟩
  · rw [h1, h2, if_neg (by omega)]
  · rw [h1, h2, if_pos (by omega)]
    simp
theorem firstL_len (l : List UInt8) : (firstL l).length ≤ l.length := by unfold firstL; exact (List.takeWhile_prefix _).length_le
def INBOX : List UInt8 := [73, 78, 66, 79, 88]
/-- A great letter of a small one. -/
def upU (x : UInt8) : UInt8 := if 97 ≤ x.toNat ∧ x.toNat ≤ 122 then UInt8.ofNat (x.toNat - 32) else x
/-- A text whose first level is INBOX, told so. -/
def inboxL (l : List UInt8) : List UInt8 := if (firstL l).map upU = INBOX then INBOX ++ l.drop 5 else l
theorem up_small (X x : UInt8) (hX : X ∈ INBOX) : upU x = X ↔ smallU x = smallU X := by
  have h : ∀ X ∈ INBOX, ∀ n : Fin 256, (upU (UInt8.ofNat n.val) = X ↔ smallU (UInt8.ofNat n.val) = smallU X) := by decide +kernel
  have := h X hX ⟨x.toNat, x.toNat_lt⟩
  simpa using this
theorem up_alike (q : List UInt8) : q.map upU = INBOX ↔ alikeL q INBOX = true := by
  unfold alikeL
  rw [beq_iff_eq]
  have h : ∀ (Y q : List UInt8), (∀ X ∈ Y, X ∈ INBOX) → (q.map upU = Y ↔ q.map smallU = Y.map smallU) := by
    intro Y
    induction Y with
    | nil => intro q _; simp
    | cons X Y ih =>
      intro q hY
      cases q with
      | nil => simp
      | cons x q =>
        simp only [List.map_cons, List.cons.injEq]
        rw [up_small X x (hY X (by simp)), ih q (fun Z hZ => hY Z (by simp [hZ]))]
  exact h INBOX q (fun X h => h)
theorem inbox_len5 {l : List UInt8} (h : (firstL l).map upU = INBOX) : 5 ≤ l.length := by
  have h1 := congrArg List.length h
  rw [List.length_map] at h1
  have h2 := firstL_len l
  have h3 : INBOX.length = 5 := rfl
  omega
theorem inboxL_length (l : List UInt8) : (inboxL l).length = l.length := by
  unfold inboxL
  split
  · rename_i h
    have := inbox_len5 h
    rw [List.length_append, List.length_drop]
    have h3 : INBOX.length = 5 := rfl
    omega
  · rfl
end Go.Proofs.Ythgopanipmnphaa
