/-
  What the laws of headers say, in plain Lean. A part of the proof: see the head of the text that ends in 'Law'.
-/
import Derived.Test.YtonjadmldgloaaaGreatDoorHe16
namespace Go.Proofs.YtonjadmldgloaaaGreatDoor.D17
open Go.RowKit
set_option linter.unusedVariables false

/-- What a field says of the octets it is told of. -/
structure FdOk (l : List UInt8) (f : Fd) : Prop where
  h1 : f.fr < f.at_
  h2 : f.at_ ≤ f.te
  h3 : 0 < f.nm.length
  h4 : f.fr + f.nm.length < f.at_
  h5 : (l.drop f.fr).take f.nm.length = f.nm
  h6 : l[f.at_ - 1]?.map (·.toNat) = some 58
/-- Fields in order, from a place on, up to another one. -/
def ordF (l : List UInt8) : Nat → List Fd → Nat → Prop
  | a, [], b => a ≤ b
  | a, f :: r, b => a ≤ f.fr ∧ FdOk l f ∧ ordF l f.te r b
theorem ordF_mono {l : List UInt8} : ∀ {fs : List Fd} {a b c : Nat}, ordF l a fs b → b ≤ c → ordF l a fs c
  | [], a, b, c, h, hc => Nat.le_trans h hc
  | f :: r, a, b, c, h, hc => ⟨h.1, h.2.1, ordF_mono h.2.2 hc⟩
theorem ordF_snoc {l : List UInt8} : ∀ {fs : List Fd} {a b : Nat} {f : Fd}, ordF l a fs b → b ≤ f.fr → FdOk l f → ordF l a (fs ++ [f]) f.te
  | [], a, b, f, h, h1, h2 => ⟨Nat.le_trans h h1, h2, Nat.le_refl _⟩
  | g :: r, a, b, f, h, h1, h2 => ⟨h.1, h.2.1, ordF_snoc h.2.2 h1 h2⟩
theorem ordF_last {l : List UInt8} : ∀ {fs : List Fd} {a b t : Nat} {f : Fd}, ordF l a (fs ++ [f]) b → b ≤ t → f.te ≤ t → ordF l a (fs ++ [{ f with te := t }]) t
  | [], a, b, t, f, h, h1, h2 => ⟨h.1, ⟨h.2.1.h1, Nat.le_trans h.2.1.h2 h2, h.2.1.h3, h.2.1.h4, h.2.1.h5, h.2.1.h6⟩, Nat.le_refl _⟩
  | g :: r, a, b, t, f, h, h1, h2 => ⟨h.1, h.2.1, ordF_last h.2.2 h1 h2⟩
theorem ordF_te {l : List UInt8} : ∀ {fs : List Fd} {a b : Nat} {f : Fd}, ordF l a (fs ++ [f]) b → f.te ≤ b
  | [], a, b, f, h => h.2.2
  | g :: r, a, b, f, h => ordF_te h.2.2
theorem ordF_set {l : List UInt8} {fs : List Fd} {a b t : Nat} (h : ordF l a fs b) (ht : b ≤ t) : ordF l a (setTo fs t) t := by
  rcases List.eq_nil_or_concat fs with rfl | ⟨i, f, rfl⟩
  · exact Nat.le_trans h ht
  · rw [List.concat_eq_append] at h ⊢
    rw [setTo_snoc]
    exact ordF_last h ht (Nat.le_trans (ordF_te h) ht)
theorem name_ok {l x m pre : List UInt8} {a k : Nat} (hp : pre.length = a) {rest : List UInt8} (hl : l = pre ++ x ++ rest) (h : nameL x = some (m, k)) : FdOk l ⟨m, a, a + x.length, a + k⟩ := by
  obtain ⟨h1, h2, h3, h4, h5⟩ := nameL_bounds h
  have hlt : k - 1 < x.length := by omega
  refine ⟨?_, ?_, h1, ?_, ?_, ?_⟩ <;> dsimp only
  · omega
  · omega
  · omega
  · rw [hl, List.append_assoc, ← hp, List.drop_left, List.take_append_of_le_length (by omega)]
    exact h4.symm
  · rw [hl, List.append_assoc, List.getElem?_append_right (by omega), List.getElem?_append_left (by omega), show a + k - 1 - pre.length = k - 1 by omega]
    exact h5
theorem fdG_ord (l : List UInt8) : ∀ (ls : List (List UInt8)) (a : Nat) (pre : List UInt8) (out : List Fd) (o : Bool), pre.length = a → l = pre ++ ls.flatten → ordF l 0 out a → ordF l 0 (fdG a ls out o) (spG a ls)
  | [], a, pre, out, o, hp, hl, h => h
  | x :: r, a, pre, out, o, hp, hl, h => by
    have hl' : l = (pre ++ x) ++ r.flatten := by rw [hl, List.flatten_cons, List.append_assoc]
    have hp' : (pre ++ x).length = a + x.length := by rw [List.length_append, hp]
    rw [fdG, spG]
    by_cases he : emptyB x = true
    · rw [if_pos he, if_pos he]
      exact ordF_mono h (by omega)
    · rw [if_neg he, if_neg he]
      by_cases hb : bl (x.headD 0) = true
      · rw [if_pos hb]
        refine fdG_ord l r (a + x.length) (pre ++ x) _ o hp' hl' ?_
        split
        · exact ordF_set h (by omega)
        · exact ordF_mono h (by omega)
      · rw [if_neg hb]
        cases hn : nameL x with
        | none => exact fdG_ord l r (a + x.length) (pre ++ x) out false hp' hl' (ordF_mono h (by omega))
        | some v =>
          obtain ⟨m, k⟩ := v
          exact fdG_ord l r (a + x.length) (pre ++ x) _ true hp' hl' (ordF_snoc (f := ⟨m, a, a + x.length, a + k⟩) h (Nat.le_refl _) (name_ok hp hl' hn))
theorem fields_ord (l : List UInt8) : ordF l 0 (fieldsL l) (splitL l) := fdG_ord l (cutL l) 0 [] [] false rfl (by rw [cutL_flat]; rfl) (Nat.le_refl _)
theorem ordF_mem {l : List UInt8} : ∀ {fs : List Fd} {a b : Nat} {f : Fd}, ordF l a fs b → f ∈ fs → FdOk l f ∧ f.te ≤ b ∧ a ≤ f.fr
  | g :: r, a, b, f, h, hm => by
    rcases List.mem_cons.1 hm with rfl | hm
    · refine ⟨h.2.1, ?_, h.1⟩
      have : ∀ {fs : List Fd} {a b : Nat}, ordF l a fs b → a ≤ b := fun {fs} => by
        induction fs with
        | nil => intro a b h; exact h
        | cons g r ih => intro a b h; have := ih h.2.2; have := h.1; have := h.2.1.h1; have := h.2.1.h2; omega
      exact this h.2.2
    · have h1 := ordF_mem h.2.2 hm
      have := h.1; have := h.2.1.h1; have := h.2.1.h2
      exact ⟨h1.1, h1.2.1, by have := h1.2.2; omega⟩
theorem field_ok {l : List UInt8} {f : Fd} (h : f ∈ fieldsL l) : FdOk l f ∧ f.te ≤ splitL l := ⟨(ordF_mem (fields_ord l) h).1, (ordF_mem (fields_ord l) h).2.1⟩
/-! A line put ahead. -/
def shF (d : Nat) (f : Fd) : Fd := ⟨f.nm, f.fr + d, f.te + d, f.at_ + d⟩
theorem setTo_sh (d t : Nat) (out : List Fd) : setTo (out.map (shF d)) (t + d) = (setTo out t).map (shF d) := by
  rcases List.eq_nil_or_concat out with rfl | ⟨i, f, rfl⟩
  · rfl
  · rw [List.concat_eq_append, setTo_snoc, List.map_append, List.map_append, List.map_cons, List.map_nil, setTo_snoc]
    rfl
theorem setTo_pre (q out : List Fd) (t : Nat) (h : out ≠ []) : setTo (q ++ out) t = q ++ setTo out t := by
  rcases List.eq_nil_or_concat out with rfl | ⟨i, f, rfl⟩
  · exact absurd rfl h
  · rw [List.concat_eq_append, ← List.append_assoc, setTo_snoc, setTo_snoc, List.append_assoc]
theorem fdG_sh (d : Nat) (q : List Fd) : ∀ (ls : List (List UInt8)) (a : Nat) (out : List Fd) (o : Bool), (o = true → out ≠ []) → fdG (a + d) ls (q ++ out.map (shF d)) o = q ++ (fdG a ls out o).map (shF d)
  | [], a, out, o, h => rfl
  | x :: r, a, out, o, h => by
    rw [fdG, fdG]
    have e1 : a + d + x.length = a + x.length + d := by omega
    by_cases he : emptyB x = true
    · rw [if_pos he, if_pos he]
    · rw [if_neg he, if_neg he]
      by_cases hb : bl (x.headD 0) = true
      · rw [if_pos hb, if_pos hb, e1]
        cases o with
        | false => rw [if_neg (by decide), if_neg (by decide)]; exact fdG_sh d q r (a + x.length) out false (fun h => by cases h)
        | true =>
          rw [if_pos rfl, if_pos rfl]
          have hne := h rfl
          rw [setTo_pre q _ _ (by simpa using hne), setTo_sh]
          refine fdG_sh d q r (a + x.length) _ true (fun _ => ?_)
          rcases List.eq_nil_or_concat out with rfl | ⟨i, f, rfl⟩
          · exact absurd rfl hne
          · rw [List.concat_eq_append, setTo_snoc]; simp
      · rw [if_neg hb, if_neg hb, e1]
        cases nameL x with
        | none => exact fdG_sh d q r (a + x.length) out false (fun h => by cases h)
        | some v =>
          obtain ⟨m, k⟩ := v
          dsimp only
          have := fdG_sh d q r (a + x.length) (out ++ [⟨m, a, a + x.length, a + k⟩]) true (fun _ => by simp)
          rw [List.map_append, ← List.append_assoc] at this
          rw [show a + d + k = a + k + d by omega]
          exact this
theorem fdG_first (d : Nat) (g : Fd) (ls : List (List UInt8)) (h : ∀ x r, ls = x :: r → bl (x.headD 0) = false) : fdG d ls [g] true = g :: (fdG 0 ls [] false).map (shF d) := by
  cases ls with
  | nil => rfl
  | cons x r =>
    have hb := h x r rfl
    rw [fdG, fdG]
    by_cases he : emptyB x = true
    · rw [if_pos he, if_pos he]
      rfl
    · rw [if_neg he, if_neg he, if_neg (by rw [hb]; decide), if_neg (by rw [hb]; decide), show d + x.length = 0 + x.length + d by omega]
      cases nameL x with
      | none => exact fdG_sh d [g] r (0 + x.length) [] false (fun h => by cases h)
      | some v =>
        obtain ⟨m, k⟩ := v
        have := fdG_sh d [g] r (0 + x.length) [⟨m, 0, 0 + x.length, 0 + k⟩] true (fun _ => by simp)
        dsimp only [List.nil_append]
        rw [show d + k = 0 + k + d by omega]
        refine Eq.trans ?_ this
        show fdG _ r ([g] ++ [⟨m, d, _, _⟩]) true = fdG _ r ([g] ++ [⟨m, 0 + d, _, _⟩]) true
        rw [Nat.zero_add d]
theorem cut_ahead (y b : List UInt8) (c : UInt8) (h : ∀ d ∈ y, d.toNat ≠ 10) (hc : c.toNat = 10) : cutL (y ++ c :: b) = (y ++ [c]) :: cutL b := by
  unfold cutL
  rw [cutF_line y [] b c h hc]
  rfl
theorem spG_add : ∀ (ls : List (List UInt8)) (a : Nat), spG a ls = a + spG 0 ls
  | [], a => rfl
  | x :: r, a => by
    rw [spG, spG]
    split
    · omega
    · rw [spG_add r (a + x.length), spG_add r (0 + x.length)]
      omega
theorem headD_cutF : ∀ (b cur : List UInt8) (x : List UInt8) (r : List (List UInt8)), cutF cur b = x :: r → x.headD 0 = (cur ++ b).headD 0
  | [], cur, x, r, h => by
    rw [cutF] at h
    split at h
    · cases h
    · injection h with h1 h2
      rw [← h1, List.append_nil]
  | c :: b, cur, x, r, h => by
    rw [cutF] at h
    split at h
    · injection h with h1 h2
      rw [← h1]
      cases cur <;> rfl
    · have := headD_cutF b (cur ++ [c]) x r h
      rw [this, List.append_assoc]
      rfl
/-- What is put ahead: a name, a colon, a blank, a text, and a line's end. -/
def aheadL (s : List UInt8) : List UInt8 := [81, 45, 110, 101, 119, 58, 32] ++ s ++ [13, 10]
def vis (c : UInt8) : Bool := decide (32 < c.toNat) && decide (c.toNat < 127)
theorem vis_ne {s : List UInt8} (h : ∀ c ∈ s, vis c = true) : ∀ c ∈ s, c.toNat ≠ 10 ∧ c.toNat ≠ 13 ∧ bl c = false := fun c hc => by
  have := h c hc
  unfold vis at this
  simp only [Bool.and_eq_true, decide_eq_true_eq] at this
  unfold bl
  refine ⟨by omega, by omega, ?_⟩
  simp
  omega
theorem ahead_split (s b : List UInt8) : aheadL s ++ b = ([81, 45, 110, 101, 119, 58, 32] ++ s ++ [13]) ++ 10 :: b := by
  unfold aheadL
  simp
theorem ahead_cut {s : List UInt8} (h : ∀ c ∈ s, vis c = true) (b : List UInt8) : cutL (aheadL s ++ b) = aheadL s :: cutL b := by
  rw [ahead_split, cut_ahead _ b 10 (fun d hd => ?_) rfl]
  · unfold aheadL; simp
  · rcases List.mem_append.1 hd with hd | hd
    · rcases List.mem_append.1 hd with hd | hd
      · have : ∀ d ∈ ([81, 45, 110, 101, 119, 58, 32] : List UInt8), d.toNat ≠ 10 := by decide
        exact this d hd
      · exact (vis_ne h d hd).1
    · rw [List.mem_singleton] at hd
      rw [hd]
      decide
theorem ahead_name (s : List UInt8) : nameL (aheadL s) = some ([81, 45, 110, 101, 119], 6) := by
  have e1 : nmN (aheadL s) = 5 := rfl
  have e2 : nmK (aheadL s) = 5 := rfl
  unfold nameL
  rw [e1, e2]
  rfl
theorem ahead_empty (s : List UInt8) : emptyB (aheadL s) = false := by
  unfold emptyB aheadL
  simp
theorem ahead_fields {s b : List UInt8} (h : ∀ c ∈ s, vis c = true) (hb : ∀ c r, b = c :: r → bl c = false) :
    fieldsL (aheadL s ++ b) = ⟨[81, 45, 110, 101, 119], 0, (aheadL s).length, 6⟩ :: (fieldsL b).map (shF (aheadL s).length) ∧ splitL (aheadL s ++ b) = (aheadL s).length + splitL b := by
  unfold fieldsL splitL
  rw [ahead_cut h]
  constructor
  · rw [fdG, ahead_empty, if_neg (by decide), if_neg (by rw [show bl ((aheadL s).headD 0) = false from rfl]; decide), ahead_name]
    dsimp only [List.nil_append]
    rw [Nat.zero_add, Nat.zero_add]
    refine fdG_first _ _ _ (fun x r hx => ?_)
    have := headD_cutF b [] x r hx
    rw [this, List.nil_append]
    cases b with
    | nil => cases hx
    | cons c b => exact hb c b rfl
  · rw [spG, ahead_empty, if_neg (by decide), spG_add, Nat.zero_add]
theorem sh_text (s b : List UInt8) (f : Fd) : fdText (aheadL s ++ b) (shF (aheadL s).length f) = fdText b f := by
  unfold fdText shF
  dsimp only
  have e : (aheadL s ++ b).drop (f.at_ + (aheadL s).length) = b.drop f.at_ := by
    rw [Nat.add_comm, ← List.drop_drop, List.drop_left]
  rw [e, show f.te + (aheadL s).length - (f.at_ + (aheadL s).length) = f.te - f.at_ by omega]
end Go.Proofs.YtonjadmldgloaaaGreatDoor.D17
