/-
  A line that is as long as it may be, and one octet more: in plain Lean. A part of the proof: see the head of the text that ends in 'Law'.
-/
import Derived.Test.YtlddhgnecfgnkaaLi12
import Derived.Test.YtlddhgnecfgnkaaLiQPlain
namespace Go.Proofs.Ytlddhgnecfgnkaa
open Go.RowKit
set_option linter.unusedVariables false

/-- An octet that may fill a line. -/
def goodC (c : UInt8) : Prop := 33 ≤ c.toNat ∧ c.toNat ≤ 126 ∧ c.toNat ≠ 34 ∧ c.toNat ≠ 40 ∧ c.toNat ≠ 41 ∧ c.toNat ≠ 91 ∧ c.toNat ≠ 123 ∧ c.toNat ≠ 125
def fillL (c : UInt8) (k : Nat) : List UInt8 := [116, 32] ++ List.replicate k c
theorem fillL_len (c : UInt8) (k : Nat) : (fillL c k).length = k + 2 := by simp [fillL]
theorem fillL_succ (c : UInt8) (k : Nat) : fillL c (k + 1) = fillL c k ++ [c] := by
  unfold fillL
  rw [List.append_assoc, List.replicate_succ']
theorem feed_line : ∀ (l : List UInt8) (R : Rdr), R.wait = 0 → (∀ c ∈ l, c.toNat ≠ 10) → R.hv.length + l.length ≤ 602 → feedR R l = ({ R with hv := R.hv ++ l }, [])
  | [], R, h, _, _ => by simp [feedR]
  | c :: l, R, h, hc, hl => by
    have h1 : stepR R c = ({ R with hv := R.hv ++ [c] }, []) := by
      unfold stepR
      rw [if_neg (by omega), if_neg (hc c (by simp)), if_neg (by simp at hl; omega)]
    rw [feedR, h1]
    dsimp only
    rw [feed_line l { R with hv := R.hv ++ [c] } h (fun d hd => hc d (by simp [hd])) (by simp at hl ⊢; omega)]
    simp
theorem trim_cr (s : List UInt8) : Lib.trimSuffix (s ++ [13]) [13] = s := by
  unfold Lib.trimSuffix
  rw [if_pos (by
    unfold Lib.hasSuffix
    rw [List.isSuffixOf_iff_suffix]
    exact List.suffix_append _ _)]
  simp
theorem atomL_rep (c : UInt8) (h : goodC c) : ∀ k, atomL false (List.replicate k c) = some k
  | 0 => rfl
  | k + 1 => by
    obtain ⟨h1, h2, h3, h4, h5, h6, h7, h8⟩ := h
    have hs : signB c = true := by simp [signB]; omega
    rw [List.replicate_succ, atomL, if_pos hs, show (c.toNat == 91) = false by simpa using h6, atomL_rep c ⟨h1, h2, h3, h4, h5, h6, h7, h8⟩ k]
    rfl
theorem tok_fill (c : UInt8) (h : goodC c) (k : Nat) : ∃ l, tokensL [⟨false, fillL c (k + 1)⟩] = some l := by
  refine ⟨[⟨0, [116]⟩, ⟨0, List.replicate (k + 1) c⟩], ?_⟩
  have h0 := h
  obtain ⟨h1, h2, h3, h4, h5, h6, h7, h8⟩ := h0
  have hn : nextL (c :: List.replicate k c) = some (⟨0, List.replicate (k + 1) c⟩, k + 1) := by
    have ha := atomL_rep c h (k + 1)
    rw [List.replicate_succ] at ha
    unfold nextL
    dsimp only
    rw [if_neg h3, if_neg h4, if_neg h5, ha]
    dsimp only
    rw [List.take_of_length_le (by simp), ← List.replicate_succ]
  have h1 : tokP (fillL c (k + 1)).length (fillL c (k + 1)) [] 0 = some ([⟨0, [116]⟩, ⟨0, List.replicate (k + 1) c⟩], 0) := by
    rw [fillL_len, show fillL c (k + 1) = 116 :: 32 :: c :: List.replicate k c from rfl]
    rw [tokP_tk (by decide) (next_t _) (by simp [fitL])]
    show tokP (k + 1 + 1) (32 :: _) _ _ = _
    rw [tokP_sp]
    rw [tokP_tk (by omega) hn (by simp [fitL]), List.drop_of_length_le (by simp), tokP_nil]
    rfl
  unfold tokensL
  rw [tokL, if_neg (by simp)]
  dsimp only
  rw [h1]
  dsimp only
  rw [tokL]
  rfl
theorem tag_fill (c : UInt8) (k : Nat) : tagL [⟨false, fillL c k⟩] = [116] := by
  unfold tagL fillL
  simp [tagOk, signB]
theorem ann_fill (c : UInt8) (h : goodC c) (k : Nat) : annL (fillL c (k + 1)) = none := by
  have hs : Lib.hasSuffix (fillL c (k + 1)) [125] = false := by
    rw [Bool.eq_false_iff]
    intro hs
    have := hasSuffix_last _ hs (k + 2) (by rw [fillL_len])
    have h2 : (fillL c (k + 1))[k + 2]'(by rw [fillL_len]; omega) = c := by
      simp only [fillL_succ]
      rw [List.getElem_append_right (by rw [fillL_len]; omega)]
      simp
    rw [h2] at this
    have := h.2.2.2.2.2.2.2
    subst c
    exact this rfl
  unfold annL
  rw [if_pos (.inr hs)]
/-- What comes of such a line. -/
theorem feed_fill (c : UInt8) (h : goodC c) (k : Nat) (hk : k + 3 ≤ 601) : ∃ x : Inp, feedR nilR (fillL c (k + 1) ++ [13, 10]) = (nilR, [x]) ∧ x.tag = [116] ∧ x.kind = if 600 < k + 3 then 3 else 0 := by
  have hf : feedR nilR (fillL c (k + 1) ++ [13]) = ({ nilR with hv := fillL c (k + 1) ++ [13] }, []) := by
    refine (feed_line _ nilR rfl (fun d hd => ?_) (by rw [List.length_append, fillL_len]; simp [nilR]; omega)).trans (by simp [nilR])
    rcases List.mem_append.1 hd with h1 | h1
    · unfold fillL at h1
      rcases List.mem_append.1 h1 with h2 | h2
      · simp at h2
        rcases h2 with rfl | rfl <;> decide
      · have h3 := List.eq_of_mem_replicate h2
        subst h3
        have := h.1
        omega
    · simp at h1
      subst h1
      decide
  have hl : lineS { nilR with hv := fillL c (k + 1) ++ [13] } = fillL c (k + 1) := by
    unfold lineS
    rw [if_neg (by simp [nilR])]
    exact trim_cr _
  have hany : ((([] : List Pc) ++ [(⟨false, fillL c (k + 1)⟩ : Pc)]) : List Pc).any pcSome = true := by simp [pcSome, fillL]
  have hstep : stepR { nilR with hv := fillL c (k + 1) ++ [13] } 10 = lineR { nilR with hv := fillL c (k + 1) ++ [13] } := by
    unfold stepR
    rw [if_neg (by simp [nilR]), if_pos (by decide)]
  have hw : feedR nilR (fillL c (k + 1) ++ [13, 10]) = lineR { nilR with hv := fillL c (k + 1) ++ [13] } := by
    rw [show fillL c (k + 1) ++ [13, 10] = (fillL c (k + 1) ++ [13]) ++ [10] by simp, feedR_snoc, hf]
    dsimp only
    rw [hstep, List.nil_append]
  rw [hw]
  unfold lineR
  rw [hl]
  by_cases hb : 600 < k + 3
  · rw [if_pos (.inr (by rw [fillL_len]; simp [nilR]; omega)), if_pos hb]
    refine ⟨endX [⟨false, fillL c (k + 1)⟩] 3, ?_, ?_, ?_⟩
    · show (nilR, endL (([] : List Pc) ++ [⟨false, fillL c (k + 1)⟩]) 3) = _
      unfold endL
      rw [if_pos hany]
      rfl
    · exact tag_fill c (k + 1)
    · rfl
  · rw [if_neg (by rw [fillL_len]; simp [nilR]; omega), if_neg hb, ann_fill c h k]
    obtain ⟨l, hl⟩ := tok_fill c h k
    have hx : endX [⟨false, fillL c (k + 1)⟩] 0 = ⟨0, [116], l⟩ := by
      unfold endX
      rw [if_pos rfl, hl, tag_fill]
    refine ⟨⟨0, [116], l⟩, ?_, rfl, rfl⟩
    show (nilR, endL (([] : List Pc) ++ [⟨false, fillL c (k + 1)⟩]) 0) = _
    unfold endL
    rw [if_pos hany, ← hx]
    rfl
end Go.Proofs.Ytlddhgnecfgnkaa
