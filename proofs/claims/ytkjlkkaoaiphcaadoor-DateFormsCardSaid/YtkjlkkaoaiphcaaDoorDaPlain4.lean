/-
  The date of a text: what it is, and of what is formatted: plain Lean, no program in sight. A part of the proof: see the head of the text that ends in 'Law'.
-/
import Derived.Test.YtkjlkkaoaiphcaaDoorDa12
namespace Go.Proofs.YtkjlkkaoaiphcaaDoor
open Go.RowKit Go.Shelf
set_option linter.unusedVariables false

def chN (l : List UInt8) (i : Nat) : Nat := (l.getD i 0).toNat
/-- The signs of a date's text. -/
def formB (l : List UInt8) : Prop := l.length = 26 ∧ chN l 2 = 45 ∧ chN l 6 = 45 ∧ chN l 11 = 32 ∧ chN l 14 = 58 ∧ chN l 17 = 58 ∧ chN l 20 = 32 ∧ (chN l 21 = 43 ∨ chN l 21 = 45)
instance (l : List UInt8) : Decidable (formB l) := by unfold formB; infer_instance
/-- A blank ahead is a nought. -/
def zeroL (l : List UInt8) : List UInt8 := if chN l 0 = 32 then 48 :: l.drop 1 else l
def fA (k : Nat) : Nat := [0, 7, 12, 15, 18, 22, 24].getD k 0
def fN (k : Nat) : Nat := [2, 4, 2, 2, 2, 2, 2].getD k 0
def pcT (t : List UInt8) (k : Nat) : List UInt8 := (t.drop (fA k)).take (fN k)
def pcL (l : List UInt8) (k : Nat) : List UInt8 := pcT (zeroL l) k
def digsB (l : List UInt8) : Prop := ∀ k, k < 7 → numOk (pcL l k) = true
instance (l : List UInt8) : Decidable (digsB l) := by unfold digsB; infer_instance
def fvL (l : List UInt8) (k : Nat) : Nat := numV (pcL l k)
def monP (l : List UInt8) : Nat := monF ((l.drop 3).take 3)
def zoneF (l : List UInt8) : Int := if chN l 21 = 45 then -(60 * (fvL l 5 : Int) + fvL l 6) else 60 * (fvL l 5 : Int) + fvL l 6
def clkB (l : List UInt8) : Prop := Vld (fvL l 1) (monP l) (fvL l 0) ∧ fvL l 2 ≤ 23 ∧ fvL l 3 ≤ 59 ∧ fvL l 4 ≤ 59 ∧ fvL l 5 ≤ 23 ∧ fvL l 6 ≤ 59
instance (l : List UInt8) : Decidable (clkB l) := by unfold clkB; infer_instance
def secF (l : List UInt8) : Int := 86400 * dayN (fvL l 1) (monP l) (fvL l 0) + (3600 * (fvL l 2 : Int) + 60 * (fvL l 3 : Int) + fvL l 4 - 60 * zoneF l)
/-- The date of a text, and the error's number. -/
def parseF (l : List UInt8) : (Int × Int) × Nat :=
  if formB l ∧ digsB l ∧ monP l ≠ 0 then (if clkB l then ((secF l, zoneF l), 0) else ((0, 0), 4)) else ((0, 0), 3)

theorem digL_get (v : Nat) : ∀ n, ∀ a, (digL v n).foldl (fun a x => 10 * a + (x.toNat - 48)) a = a * 10 ^ n + v % 10 ^ n
  | 0, a => by simp [digL, Nat.mod_one]
  | n + 1, a => by
    rw [digL, List.foldl_cons, digL_get v n, dig_nat _ (Nat.mod_lt _ (by omega))]
    rw [show 48 + v / 10 ^ n % 10 - 48 = v / 10 ^ n % 10 by omega, Nat.pow_succ, Nat.mod_mul, Nat.add_mul, Nat.mul_comm (10 ^ n) (v / 10 ^ n % 10)]
    have : 10 * a * 10 ^ n = a * (10 ^ n * 10) := by rw [Nat.mul_comm (10 ^ n) 10, ← Nat.mul_assoc, Nat.mul_comm a 10]
    omega
theorem numV_dig {v n : Nat} (h : v < 10 ^ n) : numV (digL v n) = v := by
  unfold numV
  rw [digL_get, Nat.zero_mul, Nat.zero_add, Nat.mod_eq_of_lt h]
theorem digL_all (v : Nat) : ∀ n, (digL v n).all digB = true
  | 0 => rfl
  | n + 1 => by
    rw [digL, List.all_cons, digL_all v n, Bool.and_true]
    unfold digB
    have := dig_nat (v / 10 ^ n % 10) (Nat.mod_lt _ (by omega))
    have h2 := Nat.mod_lt (v / 10 ^ n) (show 0 < 10 by omega)
    simp [this]
    omega
theorem numOk_dig (v n : Nat) : numOk (digL v (n + 1)) = true := by
  unfold numOk
  rw [digL_all]
  rfl
theorem mon_self {i : Nat} (h : i < 12) : monF (monL i) = i + 1 := by
  obtain rfl | rfl | rfl | rfl | rfl | rfl | rfl | rfl | rfl | rfl | rfl | rfl : i = 0 ∨ i = 1 ∨ i = 2 ∨ i = 3 ∨ i = 4 ∨ i = 5 ∨ i = 6 ∨ i = 7 ∨ i = 8 ∨ i = 9 ∨ i = 10 ∨ i = 11 := by omega
  all_goals decide +kernel
theorem first_zero (dd : Nat) (h : dd < 100) (r : List UInt8) : zeroL ((if dd < 10 then 32 :: digL dd 1 else digL dd 2) ++ r) = digL dd 2 ++ r := by
  unfold zeroL
  by_cases h1 : dd < 10
  · rw [if_pos h1, if_pos (by rfl)]
    have : digL dd 2 = 48 :: digL dd 1 := by
      rw [digL]
      congr 1
      rw [show dd / 10 ^ 1 % 10 = 0 by omega]
      rfl
    rw [this]
    rfl
  · rw [if_neg h1, if_neg]
    rw [digL]
    show ¬ (UInt8.ofNat (48 + dd / 10 ^ 1 % 10)).toNat = 32
    rw [dig_nat _ (Nat.mod_lt _ (by omega))]
    omega
theorem three_of {x : List UInt8} (h : x.length = 3) : ∃ a b c, x = [a, b, c] := by
  match x, h with
  | [a, b, c], _ => exact ⟨a, b, c, rfl⟩
/-- What is formatted is parsed as it was. -/
theorem parse_form {dd m y t zz : Nat} {neg : Bool} (hv : Vld y m dd) (ht : t < 86400) (hz : zz < 1440) (hn : neg = true → 0 < zz) :
    parseF (formP dd m y t zz neg) = ((86400 * dayN y m dd + t - 60 * (if neg then -(zz : Int) else zz), if neg then -(zz : Int) else zz), 0) := by
  obtain ⟨h1, h2, h3, h4, h5, h6⟩ := hv
  have hl := long_le y m
  obtain ⟨a, b, c, hm⟩ := three_of (monL_len (i := m - 1) (by omega))
  have hmm := mon_self (i := m - 1) (by omega)
  rw [hm] at hmm
  have hzero : zeroL (formP dd m y t zz neg) = digL dd 2 ++ ([45] ++ (monL (m - 1) ++ ([45] ++ (digL y 4 ++ ([32] ++ (digL (t / 3600) 2 ++ ([58] ++ (digL (t / 60 % 60) 2 ++ ([58] ++ (digL (t % 60) 2 ++ ([32] ++ ((if neg then [45] else [43]) ++ (digL (zz / 60) 2 ++ digL (zz % 60) 2))))))))))))) := first_zero dd (by omega) _
  obtain ⟨p, q, hpq⟩ : ∃ p q, (if dd < 10 then 32 :: digL dd 1 else digL dd 2) = [p, q] := by
    split
    · exact ⟨_, _, rfl⟩
    · exact ⟨_, _, rfl⟩
  obtain ⟨sg, hsg, hsg2⟩ : ∃ sg : UInt8, (if neg = true then [45] else [43]) = [sg] ∧ sg = if neg = true then 45 else 43 := by
    cases neg
    · exact ⟨43, rfl, rfl⟩
    · exact ⟨45, rfl, rfl⟩
  rw [hm, hsg] at hzero
  have hfl : formP dd m y t zz neg = [p, q] ++ ([45] ++ ([a, b, c] ++ ([45] ++ (digL y 4 ++ ([32] ++ (digL (t / 3600) 2 ++ ([58] ++ (digL (t / 60 % 60) 2 ++ ([58] ++ (digL (t % 60) 2 ++ ([32] ++ ([sg] ++ (digL (zz / 60) 2 ++ digL (zz % 60) 2))))))))))))) := by
    unfold formP
    rw [hpq, hm, hsg]
  have k0 : pcL (formP dd m y t zz neg) 0 = digL dd 2 := by unfold pcL; rw [hzero]; rfl
  have k1 : pcL (formP dd m y t zz neg) 1 = digL y 4 := by unfold pcL; rw [hzero]; rfl
  have k2 : pcL (formP dd m y t zz neg) 2 = digL (t / 3600) 2 := by unfold pcL; rw [hzero]; rfl
  have k3 : pcL (formP dd m y t zz neg) 3 = digL (t / 60 % 60) 2 := by unfold pcL; rw [hzero]; rfl
  have k4 : pcL (formP dd m y t zz neg) 4 = digL (t % 60) 2 := by unfold pcL; rw [hzero]; rfl
  have k5 : pcL (formP dd m y t zz neg) 5 = digL (zz / 60) 2 := by unfold pcL; rw [hzero]; rfl
  have k6 : pcL (formP dd m y t zz neg) 6 = digL (zz % 60) 2 := by unfold pcL; rw [hzero]; rfl
  have v0 : fvL (formP dd m y t zz neg) 0 = dd := by unfold fvL; rw [k0]; exact numV_dig (by omega)
  have v1 : fvL (formP dd m y t zz neg) 1 = y := by unfold fvL; rw [k1]; exact numV_dig (by omega)
  have v2 : fvL (formP dd m y t zz neg) 2 = t / 3600 := by unfold fvL; rw [k2]; exact numV_dig (by omega)
  have v3 : fvL (formP dd m y t zz neg) 3 = t / 60 % 60 := by unfold fvL; rw [k3]; exact numV_dig (by omega)
  have v4 : fvL (formP dd m y t zz neg) 4 = t % 60 := by unfold fvL; rw [k4]; exact numV_dig (by omega)
  have v5 : fvL (formP dd m y t zz neg) 5 = zz / 60 := by unfold fvL; rw [k5]; exact numV_dig (by omega)
  have v6 : fvL (formP dd m y t zz neg) 6 = zz % 60 := by unfold fvL; rw [k6]; exact numV_dig (by omega)
  have hmp : monP (formP dd m y t zz neg) = m := by
    unfold monP
    rw [hfl]
    show monF [a, b, c] = m
    omega
  have hc21 : chN (formP dd m y t zz neg) 21 = if neg = true then 45 else 43 := by
    rw [hfl]
    show sg.toNat = _
    rw [hsg2]
    cases neg <;> rfl
  have hzf : zoneF (formP dd m y t zz neg) = if neg then -(zz : Int) else zz := by
    unfold zoneF
    rw [hc21, v5, v6]
    cases neg
    · rw [if_neg (by decide), if_neg (by decide)]; omega
    · rw [if_pos (by decide), if_pos (by decide)]; omega
  have hfo : formB (formP dd m y t zz neg) := by
    refine ⟨?_, ?_, ?_, ?_, ?_, ?_, ?_, ?_⟩
    · rw [hfl]; rfl
    · rw [hfl]; rfl
    · rw [hfl]; rfl
    · rw [hfl]; rfl
    · rw [hfl]; rfl
    · rw [hfl]; rfl
    · rw [hfl]; rfl
    · rw [hc21]; cases neg <;> simp
  have hdg : digsB (formP dd m y t zz neg) := by
    intro k hk
    obtain rfl | rfl | rfl | rfl | rfl | rfl | rfl : k = 0 ∨ k = 1 ∨ k = 2 ∨ k = 3 ∨ k = 4 ∨ k = 5 ∨ k = 6 := by omega
    · rw [k0]; exact numOk_dig _ _
    · rw [k1]; exact numOk_dig _ _
    · rw [k2]; exact numOk_dig _ _
    · rw [k3]; exact numOk_dig _ _
    · rw [k4]; exact numOk_dig _ _
    · rw [k5]; exact numOk_dig _ _
    · rw [k6]; exact numOk_dig _ _
  have hck : clkB (formP dd m y t zz neg) := by
    unfold clkB
    rw [v0, v1, v2, v3, v4, v5, v6, hmp]
    exact ⟨⟨h1, h2, h3, h4, h5, h6⟩, by omega, by omega, by omega, by omega, by omega⟩
  unfold parseF
  rw [if_pos ⟨hfo, hdg, by rw [hmp]; omega⟩, if_pos hck, hzf]
  unfold secF
  rw [v0, v1, v2, v3, v4, hmp, hzf]
  congr 2
  omega
theorem parse_formL {s z : Int} (h : mayD s z = true) : parseF (formL s z) = ((s, z), 0) := by
  obtain ⟨f1, f2, f3, f4, _, _⟩ := mayD_facts h
  obtain ⟨g1, g2⟩ := civ_is f3 f4
  unfold formL
  rw [parse_form g1 (by omega) (by omega) (by intro e; have := of_decide_eq_true e; omega), g2]
  by_cases hz : z < 0
  · rw [decide_eq_true hz]
    simp only [if_true]
    congr 2
    · omega
    · omega
  · rw [decide_eq_false hz]
    simp only [Bool.false_eq_true, if_false]
    congr 2
    · omega
    · omega
end Go.Proofs.YtkjlkkaoaiphcaaDoor
