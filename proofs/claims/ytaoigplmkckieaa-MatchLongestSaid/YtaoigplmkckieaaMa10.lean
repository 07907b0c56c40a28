/-
  What the best match is. A part of the proof: see the head of the text that ends in 'Law'.
-/
import Derived.Test.YtaoigplmkckieaaMa9
namespace Go.Proofs.Ytaoigplmkckieaa
open Go.RowKit
set_option linter.unusedVariables false

/-- s is the best match at p. -/
def IsBest (l : List UInt8) (p : Nat) (s : Nat × Nat) : Prop :=
  (s = (0, 0) ∧ ∀ d, 1 ≤ d → d ≤ p → d ≤ 32768 → lenL l (p - d) p < 3) ∨
  (3 ≤ s.1 ∧ 1 ≤ s.2 ∧ s.2 ≤ p ∧ s.2 ≤ 32768 ∧ lenL l (p - s.2) p = s.1 ∧ ∀ d, 1 ≤ d → d ≤ p → d ≤ 32768 → lenL l (p - d) p ≤ s.1 ∧ (d < s.2 → lenL l (p - d) p < s.1))
theorem IsBest.uniq {l : List UInt8} {p : Nat} {s t : Nat × Nat} (h : IsBest l p s) (k : IsBest l p t) : s = t := by
  obtain ⟨a, b⟩ := s
  obtain ⟨x, y⟩ := t
  rcases h with ⟨h1, h2⟩ | ⟨h1, h2, h3, h4, h5, h6⟩ <;> rcases k with ⟨k1, k2⟩ | ⟨k1, k2, k3, k4, k5, k6⟩
  · rw [h1, k1]
  · have := h2 y k2 k3 k4
    simp only at *
    omega
  · have := k2 b h2 h3 h4
    simp only at *
    omega
  · simp only at *
    have e1 := h6 y k2 k3 k4
    have e2 := k6 b h2 h3 h4
    have e3 : a = x := by omega
    subst e3
    rcases Nat.lt_trichotomy b y with h | h | h
    · have := e2.2 h; omega
    · rw [h]
    · have := e1.2 h; omega
/-- s is the best match among the distances below c. -/
def Ok (l : List UInt8) (p : Nat) (s : Nat × Nat) (c : Nat) : Prop :=
  (s = (0, 0) ∧ ∀ d, 1 ≤ d → d < c → d ≤ p → lenL l (p - d) p < 3) ∨
  (3 ≤ s.1 ∧ 1 ≤ s.2 ∧ s.2 < c ∧ s.2 ≤ p ∧ s.2 ≤ 32768 ∧ lenL l (p - s.2) p = s.1 ∧ ∀ d, 1 ≤ d → d < c → d ≤ p → lenL l (p - d) p ≤ s.1 ∧ (d < s.2 → lenL l (p - d) p < s.1))
theorem go_ok (l : List UInt8) (p : Nat) : ∀ (L : List Nat) (s : Nat × Nat) (c : Nat), 1 ≤ c → (∀ f, f ∈ L ↔ (f < p ∧ c ≤ p - f ∧ 3 ≤ lenL l f p)) → L.Pairwise (· > ·) → Ok l p s c → IsBest l p (bestGo l p L s) := by
  intro L
  induction L with
  | nil =>
    intro s c hc hm _ ho
    rw [bestGo]
    have none_ : ∀ d, 1 ≤ d → c ≤ d → d ≤ p → lenL l (p - d) p < 3 := by
      intro d h1 h2 h3
      have := (hm (p - d)).2
      simp at this
      have := this (by omega) (by omega)
      omega
    rcases ho with ⟨h1, h2⟩ | ⟨h1, h2, h3, h4, h5, h6, h7⟩
    · refine Or.inl ⟨h1, fun d hd1 hd2 hd3 => ?_⟩
      by_cases hdc : d < c
      · exact h2 d hd1 hdc hd2
      · exact none_ d hd1 (by omega) hd2
    · refine Or.inr ⟨h1, h2, h4, h5, h6, fun d hd1 hd2 hd3 => ?_⟩
      by_cases hdc : d < c
      · exact h7 d hd1 hdc hd2
      · have := none_ d hd1 (by omega) hd2
        exact ⟨by omega, fun h => by omega⟩
  | cons f r ih =>
    intro s c hc hm hp ho
    have hf := (hm f).1 List.mem_cons_self
    have hpr := (List.pairwise_cons.1 hp)
    have le_f : ∀ g, g ∈ f :: r → g ≤ f := by
      intro g hg
      rcases List.mem_cons.1 hg with rfl | hg
      · exact Nat.le_refl _
      · exact Nat.le_of_lt (hpr.1 g hg)
    rw [bestGo]
    have between : ∀ d, 1 ≤ d → c ≤ d → d < p - f → d ≤ p → lenL l (p - d) p < 3 := by
      intro d h1 h2 h3 h4
      apply Nat.lt_of_not_le
      intro h5
      have := le_f (p - d) ((hm (p - d)).2 ⟨by omega, by omega, h5⟩)
      omega
    split
    · rename_i hst
      rcases ho with ⟨h1, h2⟩ | ⟨h1, h2, h3, h4, h5, h6, h7⟩
      · rcases hst with hst | hst
        · refine Or.inl ⟨h1, fun d hd1 hd2 hd3 => ?_⟩
          by_cases hdc : d < c
          · exact h2 d hd1 hdc hd2
          · exact between d hd1 (by omega) (by omega) hd2
        · rw [h1] at hst; simp at hst
      · refine Or.inr ⟨h1, h2, h4, h5, h6, fun d hd1 hd2 hd3 => ?_⟩
        by_cases hdc : d < c
        · exact h7 d hd1 hdc hd2
        · rcases hst with hst | hst
          · have := between d hd1 (by omega) (by omega) hd2
            exact ⟨by omega, fun h => by omega⟩
          · have := lenL_le l (p - d) p
            exact ⟨by omega, fun h => by omega⟩
    · rename_i hst
      have hd0 : p - f ≤ 32768 := by omega
      have hne : ¬ s.1 = 258 := fun h => hst (Or.inr h)
      have hpf : p - (p - f) = f := by omega
      refine ih _ (p - f + 1) (by omega) (fun g => ?_) hpr.2 ?_
      · constructor
        · intro hg
          have h1 := (hm g).1 (List.mem_cons_of_mem _ hg)
          have h2 := hpr.1 g hg
          exact ⟨h1.1, by omega, h1.2.2⟩
        · rintro ⟨h1, h2, h3⟩
          rcases List.mem_cons.1 ((hm g).2 ⟨h1, by omega, h3⟩) with rfl | h4
          · omega
          · exact h4
      · have below : ∀ d, 1 ≤ d → d < p - f + 1 → d ≤ p → d ≠ p - f → d < c ∨ lenL l (p - d) p < 3 := by
          intro d h1 h2 h3 h4
          by_cases hdc : d < c
          · exact Or.inl hdc
          · exact Or.inr (between d h1 (by omega) (by omega) h3)
        split
        · rename_i hlt
          refine Or.inr ⟨hf.2.2, by simp only; omega, by simp only; omega, by simp only; omega, hd0, by simp only; rw [hpf], fun d hd1 hd2 hd3 => ?_⟩
          simp only
          by_cases hde : d = p - f
          · subst hde
            rw [hpf]
            exact ⟨Nat.le_refl _, fun h => by omega⟩
          · rcases below d hd1 hd2 hd3 hde with h | h
            · rcases ho with ⟨h1, h2⟩ | ⟨h1, h2, h3, h4, h5, h6, h7⟩
              · have := h2 d hd1 h hd3
                exact ⟨by omega, fun _ => by omega⟩
              · have := (h7 d hd1 h hd3).1
                exact ⟨by omega, fun _ => by omega⟩
            · exact ⟨by omega, fun _ => by omega⟩
        · rename_i hlt
          rcases ho with ⟨h1, h2⟩ | ⟨h1, h2, h3, h4, h5, h6, h7⟩
          · rw [h1] at hlt
            simp at hlt
            omega
          · refine Or.inr ⟨h1, h2, by omega, h4, h5, h6, fun d hd1 hd2 hd3 => ?_⟩
            by_cases hde : d = p - f
            · subst hde
              rw [hpf]
              exact ⟨by omega, fun h => by omega⟩
            · rcases below d hd1 hd2 hd3 hde with h | h
              · exact h7 d hd1 h hd3
              · exact ⟨by omega, fun _ => by omega⟩
theorem three_iff (l : List UInt8) (f p : Nat) (h : p + 3 ≤ l.length) : 3 ≤ lenL l f p ↔ (l[f]? = some l[p] ∧ l[f + 1]? = some l[p + 1] ∧ l[f + 2]? = some l[p + 2]) := by
  constructor
  · intro h3
    have h0 := (lenL_in l f p 0 (by omega)).2
    have h1 := (lenL_in l f p 1 (by omega)).2
    have h2 := (lenL_in l f p 2 (by omega)).2
    rw [Nat.add_zero, Nat.add_zero, List.getElem?_eq_getElem (i := p) (by omega)] at h0
    rw [List.getElem?_eq_getElem (i := p + 1) (by omega)] at h1
    rw [List.getElem?_eq_getElem (i := p + 2) (by omega)] at h2
    exact ⟨h0, h1, h2⟩
  · rintro ⟨h0, h1, h2⟩
    apply Nat.le_of_not_lt
    intro hlt
    rcases lenL_end l f p with he | he
    · omega
    · apply he
      refine ⟨by omega, ?_⟩
      obtain h | h | h : lenL l f p = 0 ∨ lenL l f p = 1 ∨ lenL l f p = 2 := by omega
      · rw [h, Nat.add_zero, Nat.add_zero, h0, List.getElem?_eq_getElem (i := p) (by omega)]
      · rw [h, h1, List.getElem?_eq_getElem (i := p + 1) (by omega)]
      · rw [h, h2, List.getElem?_eq_getElem (i := p + 2) (by omega)]
theorem bestF_is (l : List UInt8) (p : Nat) : IsBest l p (bestF l p) := by
  unfold bestF
  split
  · rename_i h
    refine go_ok l p _ (0, 0) 1 (Nat.le_refl _) (fun f => ?_) ?_ (Or.inl ⟨rfl, fun d h1 h2 => by omega⟩)
    · rw [List.mem_reverse, three_iff l f p h]
      unfold placesL
      rw [List.mem_filter, List.mem_range, decide_eq_true_eq]
      constructor
      · rintro ⟨h1, h2⟩
        exact ⟨h1, by omega, h2⟩
      · rintro ⟨h1, _, h2⟩
        exact ⟨h1, h2⟩
    · rw [List.pairwise_reverse]
      unfold placesL
      exact List.Pairwise.filter _ List.pairwise_lt_range
  · rename_i h
    refine Or.inl ⟨rfl, fun d h1 h2 h3 => ?_⟩
    apply Nat.lt_of_not_le
    intro h4
    have := (lenL_in l (p - d) p 2 (by omega)).1
    omega
/-- What the document's loop has of the distances below c. -/
def ROk (l : List UInt8) (p : Nat) (s : Nat × Nat) (c : Nat) : Prop :=
  (s = (0, 0) ∧ ∀ d, 1 ≤ d → d < c → lenL l (p - d) p = 0) ∨
  (1 ≤ s.1 ∧ 1 ≤ s.2 ∧ s.2 < c ∧ lenL l (p - s.2) p = s.1 ∧ ∀ d, 1 ≤ d → d < c → lenL l (p - d) p ≤ s.1 ∧ (d < s.2 → lenL l (p - d) p < s.1))
theorem ROk.start (l : List UInt8) (p : Nat) : ROk l p (0, 0) 1 := Or.inl ⟨rfl, fun d h1 h2 => by omega⟩
theorem ROk.step {l : List UInt8} {p : Nat} {s : Nat × Nat} {c : Nat} (h : ROk l p s c) (hc : 1 ≤ c) : ROk l p (if s.1 < lenL l (p - c) p then (lenL l (p - c) p, c) else s) (c + 1) := by
  split
  · rename_i hlt
    refine Or.inr ⟨by simp only; omega, hc, by simp only; omega, rfl, fun d h1 h2 => ?_⟩
    simp only
    by_cases hd : d = c
    · subst hd
      exact ⟨Nat.le_refl _, fun h => by omega⟩
    · rcases h with ⟨k1, k2⟩ | ⟨k1, k2, k3, k4, k5⟩
      · have := k2 d h1 (by omega)
        exact ⟨by omega, fun _ => by omega⟩
      · have := (k5 d h1 (by omega)).1
        exact ⟨by omega, fun _ => by omega⟩
  · rename_i hlt
    rcases h with ⟨k1, k2⟩ | ⟨k1, k2, k3, k4, k5⟩
    · refine Or.inl ⟨k1, fun d h1 h2 => ?_⟩
      by_cases hd : d = c
      · subst hd
        rw [k1] at hlt
        simp at hlt
        exact hlt
      · exact k2 d h1 (by omega)
    · refine Or.inr ⟨k1, k2, by omega, k4, fun d h1 h2 => ?_⟩
      by_cases hd : d = c
      · subst hd
        exact ⟨by omega, fun h => by omega⟩
      · exact k5 d h1 (by omega)
theorem ROk.done {l : List UInt8} {p : Nat} {s : Nat × Nat} {c : Nat} (h : ROk l p s c) (hc : c = min p 32768 + 1) : (if s.1 < 3 then (0, 0) else s) = bestF l p := by
  refine IsBest.uniq (l := l) (p := p) ?_ (bestF_is l p)
  split
  · rename_i h3
    refine Or.inl ⟨rfl, fun d h1 h2 h4 => ?_⟩
    rcases h with ⟨k1, k2⟩ | ⟨k1, k2, k3, k4, k5⟩
    · have := k2 d h1 (by omega)
      omega
    · have := (k5 d h1 (by omega)).1
      omega
  · rename_i h3
    rcases h with ⟨k1, k2⟩ | ⟨k1, k2, k3, k4, k5⟩
    · rw [k1] at h3
      simp at h3
    · exact Or.inr ⟨by omega, k2, by omega, by omega, k4, fun d h1 h2 h4 => k5 d h1 (by omega)⟩
theorem best_any {w0 w : World} {fb mb n c u : Nat} {A : Option Addr} {R : Nat → Prop} {l : List UInt8} (F : Fnd w0 w fb mb A n c R u u l) (ho : Oct w0 A n l) (hnc : n ≤ c) (hc : c ≤ maxLen) (hn : n ≤ 65536) (p : Nat) (hp : p < n) (hu : u ≤ p) :
    Calls Try.prog 18 #[.pointer (some ⟨fb, 0, none⟩), .int .i64 (p : Int)] w fun e w' => e = .returned (.tuple #[.int .i64 ((bestF l p).1 : Int), .int .i64 ((bestF l p).2 : Int)]) ∧ KeepI w0 w w' fb mb A n c p p R l := by
  by_cases h : p + 3 ≤ n
  · exact best_long F ho hnc hc hn p hp hu h
  · exact best_short F ho hnc hc hn p hp hu (by omega)
end Go.Proofs.Ytaoigplmkckieaa
