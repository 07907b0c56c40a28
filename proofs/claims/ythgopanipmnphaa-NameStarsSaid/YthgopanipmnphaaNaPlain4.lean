/-
  Patterns: what meets what. No program is in sight. A part of the proof: see the head of the text that ends in 'Law'.
-/
import Derived.Test.YthgopanipmnphaaRow
namespace Go.Proofs.Ythgopanipmnphaa
set_option linter.unusedVariables false

/-- Is it * or %? -/
def wB (c : UInt8) : Bool := c == 42 || c == 37
/-- May it eat that octet? -/
def eatB (c x : UInt8) : Bool := c == 42 || x != 47
def starF (c : UInt8) (f : List UInt8 → Bool) : List UInt8 → Bool
  | [] => f []
  | x :: s => f (x :: s) || (eatB c x && starF c f s)
def litF (c : UInt8) (f : List UInt8 → Bool) : List UInt8 → Bool
  | [] => false
  | x :: s => x == c && f s
/-- Does a pattern meet a name? -/
def mt : List UInt8 → List UInt8 → Bool
  | [], s => s.isEmpty
  | c :: p, s => if wB c = true then starF c (mt p) s else litF c (mt p) s
theorem mt_nil (s : List UInt8) : mt [] s = s.isEmpty := rfl
theorem mt_wild_nil {c : UInt8} (p : List UInt8) (h : wB c = true) : mt (c :: p) [] = mt p [] := by
  show (if wB c = true then _ else _) = _
  rw [if_pos h]; rfl
theorem mt_wild {c : UInt8} (p : List UInt8) (h : wB c = true) (x : UInt8) (s : List UInt8) : mt (c :: p) (x :: s) = (mt p (x :: s) || (eatB c x && mt (c :: p) s)) := by
  show (if wB c = true then _ else _) = (_ || (_ && (if wB c = true then _ else _)))
  rw [if_pos h, if_pos h]; rfl
theorem mt_lit_nil {c : UInt8} (p : List UInt8) (h : wB c = false) : mt (c :: p) [] = false := by
  show (if wB c = true then _ else _) = _
  rw [if_neg (by rw [h]; decide)]; rfl
theorem mt_lit {c : UInt8} (p : List UInt8) (h : wB c = false) (x : UInt8) (s : List UInt8) : mt (c :: p) (x :: s) = (x == c && mt p s) := by
  show (if wB c = true then _ else _) = _
  rw [if_neg (by rw [h]; decide)]; rfl

/-- The same as a relation. -/
inductive Mt : List UInt8 → List UInt8 → Prop
  | nil : Mt [] []
  | skip {c : UInt8} {p s : List UInt8} : wB c = true → Mt p s → Mt (c :: p) s
  | eat {c x : UInt8} {p s : List UInt8} : wB c = true → eatB c x = true → Mt (c :: p) s → Mt (c :: p) (x :: s)
  | lit {c : UInt8} {p s : List UInt8} : wB c = false → Mt p s → Mt (c :: p) (c :: s)
theorem mt_iff : ∀ (p s : List UInt8), mt p s = true ↔ Mt p s := by
  intro p
  induction p with
  | nil =>
    intro s
    cases s with
    | nil => exact ⟨fun _ => .nil, fun _ => rfl⟩
    | cons x s => exact ⟨fun h => (by cases h), fun h => (by cases h)⟩
  | cons c p ih =>
    intro s
    cases hw : wB c with
    | true =>
      induction s with
      | nil =>
        rw [mt_wild_nil p hw, ih]
        constructor
        · exact .skip hw
        · intro h
          cases h with
          | skip _ h => exact h
      | cons x s ihs =>
        rw [mt_wild p hw, Bool.or_eq_true, Bool.and_eq_true, ih, ihs]
        constructor
        · rintro (h | ⟨h1, h2⟩)
          · exact .skip hw h
          · exact .eat hw h1 h2
        · intro h
          cases h with
          | skip _ h => exact .inl h
          | eat _ h1 h2 => exact .inr ⟨h1, h2⟩
          | lit h1 _ => rw [hw] at h1; cases h1
    | false =>
      cases s with
      | nil =>
        rw [mt_lit_nil p hw]
        constructor
        · intro h; cases h
        · intro h
          cases h with
          | skip h1 _ => rw [hw] at h1; cases h1
      | cons x s =>
        rw [mt_lit p hw, Bool.and_eq_true, beq_iff_eq, ih]
        constructor
        · rintro ⟨rfl, h⟩; exact .lit hw h
        · intro h
          cases h with
          | skip h1 _ => rw [hw] at h1; cases h1
          | eat h1 _ _ => rw [hw] at h1; cases h1
          | lit _ h => exact ⟨rfl, h⟩
theorem Mt.append {p s q t : List UInt8} (h : Mt p s) (h2 : Mt q t) : Mt (p ++ q) (s ++ t) := by
  induction h with
  | nil => exact h2
  | skip hw _ ih => exact .skip hw ih
  | eat hw he _ ih => exact .eat hw he ih
  | lit hw _ ih => exact .lit hw ih
theorem Mt.split {r s : List UInt8} (h : Mt r s) : ∀ p q, r = p ++ q → ∃ s1 s2, s = s1 ++ s2 ∧ Mt p s1 ∧ Mt q s2 := by
  induction h with
  | nil =>
    intro p q he
    obtain ⟨rfl, rfl⟩ := List.append_eq_nil_iff.1 he.symm
    exact ⟨[], [], rfl, .nil, .nil⟩
  | @skip c p0 s hw h0 ih =>
    intro p q he
    cases p with
    | nil =>
      rw [List.nil_append] at he
      subst he
      exact ⟨[], s, rfl, .nil, .skip hw h0⟩
    | cons d p =>
      injection he with h1 h2
      subst h1
      obtain ⟨s1, s2, hs, m1, m2⟩ := ih p q h2
      exact ⟨s1, s2, hs, .skip hw m1, m2⟩
  | @eat c x p0 s hw hx h0 ih =>
    intro p q he
    cases p with
    | nil =>
      rw [List.nil_append] at he
      subst he
      exact ⟨[], x :: s, rfl, .nil, .eat hw hx h0⟩
    | cons d p =>
      have he' := he
      injection he with h1 h2
      subst h1
      obtain ⟨s1, s2, hs, m1, m2⟩ := ih (c :: p) q he'
      exact ⟨x :: s1, s2, by rw [hs]; rfl, .eat hw hx m1, m2⟩
  | @lit c p0 s hw h0 ih =>
    intro p q he
    cases p with
    | nil =>
      rw [List.nil_append] at he
      subst he
      exact ⟨[], c :: s, rfl, .nil, .lit hw h0⟩
    | cons d p =>
      injection he with h1 h2
      subst h1
      obtain ⟨s1, s2, hs, m1, m2⟩ := ih p q h2
      exact ⟨c :: s1, s2, by rw [hs]; rfl, .lit hw m1, m2⟩
/-- A wild sign alone. -/
theorem Mt.wild {c : UInt8} (hw : wB c = true) : ∀ t : List UInt8, Mt [c] t ↔ ∀ x ∈ t, eatB c x = true
  | [] => ⟨fun _ x h => absurd h (List.not_mem_nil), fun _ => .skip hw .nil⟩
  | x :: t => by
    constructor
    · intro h
      cases h with
      | skip _ h => cases h
      | eat _ h1 h2 =>
        intro y hy
        rcases List.mem_cons.1 hy with rfl | hy
        · exact h1
        · exact (Mt.wild hw t).1 h2 y hy
      | lit h1 _ => rw [hw] at h1; cases h1
    · intro h
      exact .eat hw (h x (by simp)) ((Mt.wild hw t).2 (fun y hy => h y (by simp [hy])))
/-- Any other sign alone. -/
theorem Mt.one {c : UInt8} (hw : wB c = false) (t : List UInt8) : Mt [c] t ↔ t = [c] := by
  constructor
  · intro h
    cases h with
    | skip h1 _ => rw [hw] at h1; cases h1
    | eat h1 _ _ => rw [hw] at h1; cases h1
    | lit _ h => cases h; rfl
  · rintro rfl
    exact .lit hw .nil
theorem bool_iff {a b : Bool} (h : a = true ↔ b = true) : a = b := Bool.eq_iff_iff.2 h
theorem mt_snoc_nil (p : List UInt8) (c : UInt8) : mt (p ++ [c]) [] = (mt p [] && wB c) := by
  apply bool_iff
  rw [mt_iff, Bool.and_eq_true, mt_iff]
  constructor
  · intro h
    obtain ⟨s1, s2, hs, m1, m2⟩ := h.split p [c] rfl
    obtain ⟨rfl, rfl⟩ := List.append_eq_nil_iff.1 hs.symm
    refine ⟨m1, ?_⟩
    cases hw : wB c with
    | true => rfl
    | false => have := (Mt.one hw []).1 m2; cases this
  · rintro ⟨h, hw⟩
    exact h.append (.skip hw .nil)
theorem snoc_cases (t : List UInt8) : t = [] ∨ ∃ u x, t = u ++ [x] := by
  rcases List.eq_nil_or_concat t with h | ⟨u, x, h⟩
  · exact .inl h
  · exact .inr ⟨u, x, by simpa using h⟩
theorem mt_snoc_wild (p s : List UInt8) (c x : UInt8) (hw : wB c = true) : mt (p ++ [c]) (s ++ [x]) = (mt p (s ++ [x]) || (mt (p ++ [c]) s && eatB c x)) := by
  apply bool_iff
  rw [mt_iff, Bool.or_eq_true, Bool.and_eq_true, mt_iff, mt_iff]
  constructor
  · intro h
    obtain ⟨s1, s2, hs, m1, m2⟩ := h.split p [c] rfl
    rcases snoc_cases s2 with rfl | ⟨u, y, rfl⟩
    · rw [List.append_nil] at hs
      rw [hs]
      exact .inl m1
    · rw [← List.append_assoc] at hs
      obtain ⟨h1, h2⟩ := List.append_inj' hs rfl
      injection h2 with h2 _
      subst h2
      have h3 := (Mt.wild hw _).1 m2
      rw [h1]
      exact .inr ⟨m1.append ((Mt.wild hw u).2 (fun y hy => h3 y (by simp [hy]))), h3 x (by simp)⟩
  · rintro (h | ⟨h, he⟩)
    · have := h.append (.skip hw .nil : Mt [c] [])
      rwa [List.append_nil] at this
    · obtain ⟨s1, s2, hs, m1, m2⟩ := h.split p [c] rfl
      rw [hs, List.append_assoc]
      refine m1.append ((Mt.wild hw _).2 ?_)
      intro y hy
      rcases List.mem_append.1 hy with hy | hy
      · exact (Mt.wild hw _).1 m2 y hy
      · rw [List.mem_singleton.1 hy]; exact he
theorem mt_snoc_lit (p s : List UInt8) (c x : UInt8) (hw : wB c = false) : mt (p ++ [c]) (s ++ [x]) = (mt p s && x == c) := by
  apply bool_iff
  rw [mt_iff, Bool.and_eq_true, mt_iff, beq_iff_eq]
  constructor
  · intro h
    obtain ⟨s1, s2, hs, m1, m2⟩ := h.split p [c] rfl
    rw [(Mt.one hw s2).1 m2] at hs
    obtain ⟨h1, h2⟩ := List.append_inj' hs rfl
    injection h2 with h2 _
    rw [h1]
    exact ⟨m1, h2⟩
  · rintro ⟨h, rfl⟩
    exact h.append ((Mt.one hw _).2 rfl)
theorem mt_self : ∀ (p : List UInt8), (∀ c ∈ p, wB c = false) → ∀ s, (mt p s = true ↔ s = p)
  | [], _, s => by rw [mt_nil]; cases s <;> simp
  | c :: p, h, s => by
    have hw := h c (by simp)
    have ih := mt_self p (fun d hd => h d (by simp [hd]))
    cases s with
    | nil => rw [mt_lit_nil p hw]; simp
    | cons x s => rw [mt_lit p hw, Bool.and_eq_true, beq_iff_eq, ih]; simp
end Go.Proofs.Ythgopanipmnphaa
