/-
  What is quoted is read as it was: in plain Lean. A part of the proof: see the head of the text that ends in 'Law'.
-/
import Derived.Test.YtlddhgnecfgnkaaLiPlain
namespace Go.Proofs.Ytlddhgnecfgnkaa
open Go.RowKit
set_option linter.unusedVariables false

def keepC (c : UInt8) : Bool := decide (32 ≤ c.toNat) && c.toNat != 127
def keptL (l : List UInt8) : List UInt8 := l.filter keepC
def escL : List UInt8 → List UInt8
  | [] => []
  | c :: r => if c.toNat = 34 ∨ c.toNat = 92 then 92 :: c :: escL r else c :: escL r
theorem escL_append (a b : List UInt8) : escL (a ++ b) = escL a ++ escL b := by
  induction a with
  | nil => rfl
  | cons c a ih =>
    rw [List.cons_append, escL, escL, ih]
    split <;> rfl
theorem escL_len (s : List UInt8) : (escL s).length ≤ 2 * s.length := by
  induction s with
  | nil => simp [escL]
  | cons c s ih =>
    rw [escL]
    split <;> simp <;> omega
theorem quoL_esc (s : List UInt8) (h : ∀ c ∈ s, keepC c = true) (r : List UInt8) : quoL (escL s ++ 34 :: r) = some (s, (escL s).length + 1) := by
  induction s with
  | nil => rw [escL, List.nil_append, quoL.eq_def]; rfl
  | cons c s ih =>
    have hc := h c (by simp)
    have ih := ih (fun d hd => h d (by simp [hd]))
    unfold keepC at hc
    rw [Bool.and_eq_true, decide_eq_true_iff, bne_iff_ne] at hc
    rw [escL]
    by_cases he : c.toNat = 34 ∨ c.toNat = 92
    · rw [if_pos he, List.cons_append, List.cons_append, quoL.eq_def]
      dsimp only
      rw [if_neg (by decide), if_neg (by decide), if_pos (by decide), if_pos he, ih]
      simp
    · rw [if_neg he, List.cons_append, quoL.eq_def]
      dsimp only
      rw [if_neg (by omega), if_neg (by omega), if_neg (by omega), ih]
      simp
theorem tokP_sp (n : Nat) (r : List UInt8) (out : List Tk) (sp : Nat) : tokP (n + 1) (32 :: r) out sp = tokP n r out (sp + 1) := by
  rw [tokP, if_pos (by decide)]
theorem tokP_tk {n k : Nat} {c : UInt8} {r : List UInt8} {out : List Tk} {sp : Nat} {t : Tk} (hc : c.toNat ≠ 32) (hn : nextL (c :: r) = some (t, k)) (hf : fitL out sp t = true) : tokP (n + 1) (c :: r) out sp = tokP n ((c :: r).drop k) (out ++ [t]) 0 := by
  rw [tokP, if_neg hc, hn]
  dsimp only
  rw [if_pos hf]
theorem tokP_nil (n : Nat) (out : List Tk) (sp : Nat) : tokP n [] out sp = some (out, sp) := by cases n <;> rfl
theorem next_t (r : List UInt8) : nextL (116 :: 32 :: r) = some (⟨0, [116]⟩, 1) := by
  simp [nextL, atomL, signB]
theorem next_x : nextL [120] = some (⟨0, [120]⟩, 1) := by
  simp [nextL, atomL, signB]
theorem next_o (r : List UInt8) : nextL (40 :: r) = some (⟨2, [40]⟩, 1) := by
  simp [nextL]
theorem next_c (r : List UInt8) : nextL (41 :: r) = some (⟨3, [41]⟩, 1) := by
  simp [nextL]
def wantL (s : List UInt8) : List Tk := [⟨0, [116]⟩, ⟨2, [40]⟩, ⟨1, s⟩, ⟨3, [41]⟩, ⟨0, [120]⟩]
def quotL (s : List UInt8) : List Pc := [⟨false, [116, 32, 40, 34] ++ escL s ++ [34, 41, 32, 120]⟩]
def litL (s : List UInt8) : List Pc := [⟨false, [116, 32, 40]⟩, ⟨true, s⟩, ⟨false, [41, 32, 120]⟩]
theorem tok_quot (s : List UInt8) (h : ∀ c ∈ s, keepC c = true) : tokensL (quotL s) = some (wantL s) := by
  have hq : nextL (34 :: (escL s ++ [34, 41, 32, 120])) = some (⟨1, s⟩, (escL s).length + 2) := by
    have := quoL_esc s h [41, 32, 120]
    simp [nextL, this]
  have hlen : ([116, 32, 40, 34] ++ escL s ++ [34, 41, 32, 120]).length = (escL s).length + 7 + 1 := by simp
  have hdrop : (34 :: (escL s ++ [34, 41, 32, 120])).drop ((escL s).length + 2) = [41, 32, 120] := by
    rw [show (34 :: (escL s ++ [34, 41, 32, 120])) = (34 :: escL s ++ [34]) ++ [41, 32, 120] by simp]
    exact List.drop_left' (by simp)
  have h1 : tokP ([116, 32, 40, 34] ++ escL s ++ [34, 41, 32, 120]).length ([116, 32, 40, 34] ++ escL s ++ [34, 41, 32, 120]) [] 0 = some (wantL s, 0) := by
    rw [hlen, show ([116, 32, 40, 34] ++ escL s ++ [34, 41, 32, 120] : List UInt8) = 116 :: 32 :: 40 :: 34 :: (escL s ++ [34, 41, 32, 120]) by simp]
    rw [tokP_tk (by decide) (next_t _) (by simp [fitL])]
    show tokP ((escL s).length + 6 + 1) (32 :: _) _ _ = _
    rw [tokP_sp]
    show tokP ((escL s).length + 5 + 1) (40 :: _) _ _ = _
    rw [tokP_tk (by decide) (next_o _) (by simp [fitL])]
    show tokP ((escL s).length + 4 + 1) (34 :: _) _ _ = _
    rw [tokP_tk (by decide) hq (by simp [fitL]), hdrop]
    show tokP ((escL s).length + 3 + 1) _ _ _ = _
    rw [tokP_tk (by decide) (next_c _) (by simp [fitL])]
    show tokP ((escL s).length + 2 + 1) (32 :: _) _ _ = _
    rw [tokP_sp]
    show tokP ((escL s).length + 1 + 1) _ _ _ = _
    rw [tokP_tk (by decide) next_x (by simp [fitL])]
    show tokP _ [] _ _ = _
    rw [tokP_nil]
    rfl
  unfold tokensL quotL
  rw [tokL, if_neg (by simp)]
  dsimp only
  rw [h1]
  dsimp only
  rw [tokL]
  rfl
theorem tok_lit (s : List UInt8) : tokensL (litL s) = some (wantL s) := by
  have h1 : tokP 3 [116, 32, 40] [] 0 = some ([⟨0, [116]⟩, ⟨2, [40]⟩], 0) := by
    rw [tokP_tk (by decide) (next_t _) (by simp [fitL])]
    show tokP (1 + 1) (32 :: _) _ _ = _
    rw [tokP_sp]
    rw [tokP_tk (by decide) (next_o _) (by simp [fitL])]
    rfl
  have h2 : tokP 3 [41, 32, 120] [⟨0, [116]⟩, ⟨2, [40]⟩, ⟨1, s⟩] 0 = some (wantL s, 0) := by
    rw [tokP_tk (by decide) (next_c _) (by simp [fitL])]
    show tokP (1 + 1) (32 :: _) _ _ = _
    rw [tokP_sp]
    rw [tokP_tk (by decide) next_x (by simp [fitL])]
    rfl
  unfold tokensL litL
  rw [tokL, if_neg (by simp)]
  show (match (match tokP 3 [116, 32, 40] [] 0 with | none => none | some (o, q) => tokL [⟨true, s⟩, ⟨false, [41, 32, 120]⟩] o q) with | none => none | some (o, sp) => if sp = 0 then some o else none) = _
  rw [h1]
  dsimp only
  rw [tokL, if_pos rfl, if_pos (by simp [fitL]), tokL, if_neg (by simp)]
  show (match (match tokP 3 [41, 32, 120] [⟨0, [116]⟩, ⟨2, [40]⟩, ⟨1, s⟩] 0 with | none => none | some (o, q) => tokL [] o q) with | none => none | some (o, sp) => if sp = 0 then some o else none) = _
  rw [h2]
  rfl
theorem kept_take (l : List UInt8) (k : Nat) (hk : k < l.length) : keptL (l.take (k + 1)) = keptL (l.take k) ++ (if keepC (l[k]'hk) = true then [l[k]'hk] else []) := by
  unfold keptL
  rw [List.take_succ_eq_append_getElem hk, List.filter_append]
  congr 1
  rw [List.filter_cons]
  rfl
theorem kept_len (l : List UInt8) : (keptL l).length ≤ l.length := List.length_filter_le _ _
theorem kept_all (l : List UInt8) : ∀ c ∈ keptL l, keepC c = true := fun c hc => (List.mem_filter.1 hc).2
theorem quot_sz (s : List UInt8) (h : s.length ≤ 150) : szP (quotL s) ≤ 50000 := by
  have := escL_len s
  simp [szP, quotL]
  omega
theorem lit_sz (s : List UInt8) (h : s.length ≤ 150) : szP (litL s) ≤ 50000 := by
  simp [szP, litL]
  omega
end Go.Proofs.Ytlddhgnecfgnkaa
