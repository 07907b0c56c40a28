/-
  Names and patterns: what the statements say. No program is in sight. A part of the proof: see the head of the text that ends in 'Law'.
-/
import Derived.Test.YthgopanipmnphaaNa11
namespace Go.Proofs.Ythgopanipmnphaa
set_option linter.unusedVariables false

theorem firstL_no (l : List UInt8) : (47 : UInt8) ∉ firstL l := by
  intro h
  unfold firstL at h
  have := (List.all_takeWhile (p := fun x : UInt8 => x != 47) (l := l))
  rw [List.all_eq_true] at this
  have := this _ h
  simp at this
theorem firstL_all {l : List UInt8} (h : (47 : UInt8) ∉ l) (v : List UInt8) : firstL (l ++ v) = l ++ firstL v := by
  unfold firstL
  induction l with
  | nil => rfl
  | cons x l ih =>
    have hx : (x != 47) = true := by rw [bne_iff_ne]; rintro rfl; exact h (by simp)
    rw [List.cons_append, List.takeWhile_cons, if_pos hx, ih (fun hm => h (by simp [hm]))]
    rfl
theorem firstL_has {l : List UInt8} (h : (47 : UInt8) ∈ l) (v : List UInt8) : firstL (l ++ v) = firstL l := by
  unfold firstL
  induction l with
  | nil => cases h
  | cons x l ih =>
    rw [List.cons_append, List.takeWhile_cons, List.takeWhile_cons]
    by_cases hx : (x != 47) = true
    · rw [if_pos hx, if_pos hx, ih]
      rcases List.mem_cons.1 h with rfl | h
      · exact absurd hx (by decide)
      · exact h
    · rw [if_neg hx, if_neg hx]
theorem firstL_stroke (u v : List UInt8) : firstL (u ++ 47 :: v) = firstL u := by
  by_cases h : (47 : UInt8) ∈ u
  · exact firstL_has h _
  · rw [firstL_all h]
    have h2 : firstL (47 :: v) = [] := rfl
    have h3 : firstL u = u := by
      have := firstL_all h []
      rw [List.append_nil] at this
      rw [this]
      exact List.append_nil u
    rw [h2, h3, List.append_nil]
/-- Told already. -/
def ToldI (p : List UInt8) : Prop := (firstL p).map upU = INBOX → firstL p = INBOX
theorem drop_firstL (p : List UInt8) : firstL p ++ p.drop (firstL p).length = p := by
  have h : firstL p <+: p := List.takeWhile_prefix _
  have h2 := List.prefix_iff_eq_take.1 h
  conv => lhs; arg 1; rw [h2]
  exact List.take_append_drop _ _
theorem inbox_fix {p : List UInt8} (h : ToldI p) : inboxL p = p := by
  unfold inboxL
  split
  · rename_i hi
    have h1 := h hi
    have h2 := drop_firstL p
    rw [h1] at h2
    exact h2
  · rfl
theorem toldI_inbox (s : List UInt8) : ToldI (inboxL s) := by
  intro h
  unfold inboxL at h ⊢
  split at h
  · rename_i hi
    rw [if_pos hi]
    have h1 := drop_firstL s
    have h5 : (firstL s).length = 5 := by
      have := congrArg List.length hi
      rw [List.length_map] at this
      exact this
    have hno : (47 : UInt8) ∉ INBOX := by decide
    rw [firstL_all hno]
    have h2 : firstL (s.drop 5) = [] := by
      rw [h5] at h1
      cases hd : s.drop 5 with
      | nil => rfl
      | cons x v =>
        have hx : x = 47 := by
          rw [hd] at h1
          rcases Classical.em (x = 47) with hx | hx
          · exact hx
          · have h3 := congrArg firstL h1
            rw [firstL_all (firstL_no s)] at h3
            have h4 := congrArg List.length h3
            rw [List.length_append] at h4
            have h6 : firstL (x :: v) = x :: firstL v := by
              unfold firstL
              rw [List.takeWhile_cons, if_pos (by simpa using hx)]
            rw [h6] at h4
            simp at h4
        subst hx
        rfl
    rw [h2, List.append_nil]
  · rename_i hi
    exact absurd h hi
theorem toldI_told {s : List UInt8} (h : isL s = true) : ToldI (toldL s) := by
  unfold toldL
  rw [if_pos h]
  exact toldI_inbox s
theorem upU_wild {c : UInt8} (h : wB c = true) : upU c = c := by
  unfold wB at h
  rw [Bool.or_eq_true, beq_iff_eq, beq_iff_eq] at h
  rcases h with rfl | rfl <;> rfl
/-- A beginning of what is told, and a wild sign behind it, is told already. -/
theorem toldI_wild {t : List UInt8} (h : ToldI t) (i : Nat) {c : UInt8} (hw : wB c = true) (v : List UInt8) : ToldI (t.take i ++ c :: v) := by
  intro hi
  by_cases hm : (47 : UInt8) ∈ t.take i
  · rw [firstL_has hm] at hi ⊢
    have he : firstL t = firstL (t.take i) := by
      conv => lhs; rw [← List.take_append_drop i t]
      exact firstL_has hm _
    rw [← he] at hi ⊢
    exact h hi
  · rw [firstL_all hm] at hi
    have hc : c ≠ 47 := by rintro rfl; cases hw
    have h6 : firstL (c :: v) = c :: firstL v := by
      unfold firstL
      rw [List.takeWhile_cons, if_pos (by simpa using hc)]
    rw [h6, List.map_append, List.map_cons, upU_wild hw] at hi
    have hin : c ∈ INBOX := by rw [← hi]; simp
    unfold wB at hw
    rw [Bool.or_eq_true, beq_iff_eq, beq_iff_eq] at hw
    rcases hw with rfl | rfl <;> exact absurd hin (by decide)
theorem toldI_stroke {u : List UInt8} (h : ToldI u) (v : List UInt8) : ToldI (u ++ 47 :: v) := by
  unfold ToldI
  rw [firstL_stroke]
  exact h
theorem told_mem {s : List UInt8} {c : UInt8} (h : c ∈ toldL s) : c ∈ s ∨ c ∈ INBOX := by
  unfold toldL at h
  split at h
  · unfold inboxL at h
    split at h
    · rcases List.mem_append.1 h with h | h
      · exact .inr h
      · exact .inl (List.mem_of_mem_drop h)
    · exact .inl h
  · exact .inl h
theorem isL_ok {s : List UInt8} (h : isL s = true) {c : UInt8} (hc : c ∈ s) : okN c.toNat = true := by
  obtain ⟨i, hi⟩ := List.getElem?_of_mem hc
  have h1 := (of_decide_eq_true h).2.2 i (List.getElem?_eq_some_iff.1 hi).1
  rw [getD_some hi] at h1
  exact h1.1
theorem ok_tame {c : UInt8} (h : okN c.toNat = true) : wB c = false := by
  unfold okN at h
  have := of_decide_eq_true h
  unfold wB
  rw [Bool.or_eq_false_iff, beq_eq_false_iff_ne, beq_eq_false_iff_ne]
  constructor
  · rintro rfl; exact this.2.2.2.2.2.2.2.1 rfl
  · rintro rfl; exact this.2.2.2.2.2.2.1 rfl
theorem told_tame {s : List UInt8} (h : isL s = true) : ∀ c ∈ toldL s, wB c = false := by
  intro c hc
  rcases told_mem hc with h1 | h1
  · exact ok_tame (isL_ok h h1)
  · have : ∀ c ∈ INBOX, wB c = false := by decide
    exact this c h1
theorem Mt.self {p : List UInt8} (h : ∀ c ∈ p, wB c = false) : Mt p p := (mt_iff p p).1 ((mt_self p h p).2 rfl)
theorem eat42 (x : UInt8) : eatB 42 x = true := rfl
theorem Mt.star (t : List UInt8) : Mt [42] t := (Mt.wild (by decide) t).2 (fun x _ => eat42 x)
theorem metB_name {s p : List UInt8} (h : isL s = true) (hp : p.length ≤ 60) : metB s p = mt (inboxL p) (toldL s) := by
  unfold metB
  rw [h, decide_eq_true hp]
  rfl
/-- * meets every name. -/
theorem own_star {s : List UInt8} (h : isL s = true) : metB s [42] = true := by
  rw [metB_name h (by decide), show inboxL [42] = [42] by decide +kernel, mt_iff]
  exact .star _
theorem stroke_told {s : List UInt8} (h : isL s = true) : (47 : UInt8) ∈ toldL s ↔ (47 : UInt8) ∈ s := by
  unfold toldL
  rw [if_pos h]
  unfold inboxL
  split
  · rename_i hi
    have h5 : (firstL s).length = 5 := by
      have := congrArg List.length hi
      rw [List.length_map] at this
      exact this
    have h1 := drop_firstL s
    rw [h5] at h1
    constructor
    · intro hm
      rcases List.mem_append.1 hm with hm | hm
      · exact absurd hm (by decide)
      · exact List.mem_of_mem_drop hm
    · intro hm
      rw [← h1] at hm
      rcases List.mem_append.1 hm with hm | hm
      · exact absurd hm (firstL_no s)
      · exact List.mem_append.2 (.inr hm)
  · exact Iff.rfl
theorem isL_pos {s : List UInt8} (h : isL s = true) : 0 < s.length := (of_decide_eq_true h).1
theorem isL_first47 {s : List UInt8} (h : isL s = true) : (s.getD 0 0).toNat ≠ 47 := by
  intro h47
  rw [isL_first (isL_pos h) h47] at h
  cases h
theorem str_data (s : List UInt8) (j : Nat) : (str s).data[j]! = s.getD j 0 := by
  show s.toArray[j]! = _
  rw [List.getElem!_toArray, List.getD_eq_getElem?_getD, List.getElem!_eq_getElem?_getD]
  rfl
/-- Nothing is above a name of one level. -/
theorem up_nil {s : List UInt8} (h : isL s = true) : upL s = [] ↔ (47 : UInt8) ∉ s := by
  unfold upL
  rcases Lib.lastIndexByte_spec (str s) 47 with ⟨h1, h2⟩ | ⟨i, hi, h1, h2, _⟩
  · rw [h1, if_pos (.inr (by decide))]
    refine ⟨fun _ hm => ?_, fun _ => rfl⟩
    obtain ⟨j, hj⟩ := List.getElem?_of_mem hm
    have := h2 j (by rw [str_size]; exact (List.getElem?_eq_some_iff.1 hj).1)
    rw [str_data, getD_some hj] at this
    exact this rfl
  · rw [h1, h, if_neg (by simp), Int.toNat_natCast]
    rw [str_size] at hi
    rw [str_data] at h2
    have h47 : (47 : UInt8) ∈ s := by
      have hx : s[i]? = some 47 := by
        rw [List.getElem?_eq_getElem hi]
        rw [List.getD_eq_getElem?_getD, List.getElem?_eq_getElem hi] at h2
        exact congrArg some (toNat47 (by have e : (s[i].toNat : Int) = 47 := by simpa using h2
                                         omega))
      exact List.mem_of_getElem? hx
    have hi0 : i ≠ 0 := by
      rintro rfl
      exact isL_first47 h (by omega)
    constructor
    · intro he
      have h3 := congrArg List.length he
      rw [List.length_take, toldL_length, List.length_nil] at h3
      have h4 := isL_pos h
      omega
    · intro hno
      exact absurd h47 hno
/-- % meets the names of one level. -/
theorem own_part {s : List UInt8} (h : isL s = true) : metB s [37] = (upL s == []) := by
  rw [metB_name h (by decide), show inboxL [37] = [37] by decide +kernel]
  apply bool_iff
  rw [mt_iff, Mt.wild (by decide), beq_iff_eq, up_nil h, ← stroke_told h]
  constructor
  · intro ha hm
    have := ha _ hm
    exact absurd this (by decide)
  · intro hno x hx
    unfold eatB
    rw [Bool.or_eq_true, bne_iff_ne]
    right
    rintro rfl
    exact hno hx
theorem inbox_name {s : List UInt8} (h : isL s = true) : inboxL s = toldL s := by
  unfold toldL
  rw [if_pos h]
/-- A name meets itself, and no other one. -/
theorem own_self {s o : List UInt8} (hs : isL s = true) (ho : isL o = true) : metB o s = (toldL s == toldL o) := by
  rw [metB_name ho (isL_len hs), inbox_name hs]
  apply bool_iff
  rw [mt_self _ (told_tame hs), beq_iff_eq]
  exact eq_comm
end Go.Proofs.Ythgopanipmnphaa
