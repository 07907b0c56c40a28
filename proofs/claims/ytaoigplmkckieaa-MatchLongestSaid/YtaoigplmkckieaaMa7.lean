/-
  For how many octets two places are alike. A part of the proof: see the head of the text that ends in 'Law'.
-/
import Derived.Test.YtaoigplmkckieaaMa6
namespace Go.Proofs.Ytaoigplmkckieaa
open Go.RowKit
set_option linter.unusedVariables false

def runL (l : List UInt8) (i j : Nat) : Nat → Nat
  | 0 => 0
  | f + 1 => if j < l.length ∧ l[i]? = l[j]? then runL l (i + 1) (j + 1) f + 1 else 0
/-- For how many octets, 258 at most, what stands at i and at j is alike. -/
def lenL (l : List UInt8) (i j : Nat) : Nat := runL l i j 258
theorem run_is (l : List UInt8) : ∀ (f k i j : Nat), (∀ p, p < k → j + p < l.length ∧ l[i + p]? = l[j + p]?) → k ≤ f → (k = f ∨ ¬ (j + k < l.length ∧ l[i + k]? = l[j + k]?)) → runL l i j f = k := by
  intro f
  induction f with
  | zero => intro k i j _ hk _; simp [runL]; omega
  | succ f ih =>
    intro k i j h hk he
    rw [runL]
    cases k with
    | zero =>
      rw [if_neg]
      rcases he with he | he
      · omega
      · simpa using he
    | succ k =>
      have h0 := h 0 (by omega)
      simp only [Nat.add_zero] at h0
      rw [if_pos h0, ih k (i + 1) (j + 1) (fun p hp => by
        have := h (p + 1) (by omega)
        rw [show i + 1 + p = i + (p + 1) by omega, show j + 1 + p = j + (p + 1) by omega]
        exact this) (by omega) (by
          rw [show i + 1 + k = i + (k + 1) by omega, show j + 1 + k = j + (k + 1) by omega]
          rcases he with he | he
          · exact Or.inl (by omega)
          · exact Or.inr he)]
theorem run_spec (l : List UInt8) : ∀ (f i j : Nat), runL l i j f ≤ f ∧ (∀ p, p < runL l i j f → j + p < l.length ∧ l[i + p]? = l[j + p]?) ∧ (runL l i j f = f ∨ ¬ (j + runL l i j f < l.length ∧ l[i + runL l i j f]? = l[j + runL l i j f]?)) := by
  intro f
  induction f with
  | zero => intro i j; simp [runL]
  | succ f ih =>
    intro i j
    rw [runL]
    split
    · rename_i h
      obtain ⟨h1, h2, h3⟩ := ih (i + 1) (j + 1)
      refine ⟨by omega, fun p hp => ?_, ?_⟩
      · cases p with
        | zero => simpa using h
        | succ p =>
          have := h2 p (by omega)
          rw [show i + (p + 1) = i + 1 + p by omega, show j + (p + 1) = j + 1 + p by omega]
          exact this
      · rw [show i + (runL l (i + 1) (j + 1) f + 1) = i + 1 + runL l (i + 1) (j + 1) f by omega, show j + (runL l (i + 1) (j + 1) f + 1) = j + 1 + runL l (i + 1) (j + 1) f by omega]
        rcases h3 with h3 | h3
        · exact Or.inl (by omega)
        · exact Or.inr h3
    · rename_i h
      exact ⟨by omega, fun p hp => by omega, Or.inr (by simpa using h)⟩
theorem lenL_is {l : List UInt8} {k i j : Nat} (h : ∀ p, p < k → j + p < l.length ∧ l[i + p]? = l[j + p]?) (hk : k ≤ 258) (he : k = 258 ∨ ¬ (j + k < l.length ∧ l[i + k]? = l[j + k]?)) : lenL l i j = k := run_is l 258 k i j h hk he
theorem lenL_le (l : List UInt8) (i j : Nat) : lenL l i j ≤ 258 := (run_spec l 258 i j).1
theorem lenL_in (l : List UInt8) (i j p : Nat) (hp : p < lenL l i j) : j + p < l.length ∧ l[i + p]? = l[j + p]? := (run_spec l 258 i j).2.1 p hp
theorem lenL_end (l : List UInt8) (i j : Nat) : lenL l i j = 258 ∨ ¬ (j + lenL l i j < l.length ∧ l[i + lenL l i j]? = l[j + lenL l i j]?) := (run_spec l 258 i j).2.2

def AlikeTo (l : List UInt8) (i j k : Nat) : Prop := ∀ p, p < k → j + p < l.length ∧ l[i + p]? = l[j + p]?
set_option maxHeartbeats 2000000 in
theorem long_any (w : World) (fb n c : Nat) (A : Option Addr) (l : List UInt8) (hf : w.cell? ⟨fb, 0, none⟩ = some (.slice A n c)) (ho : Oct w A n l) (hn : n ≤ 65536) (i j : Nat) (hij : i ≤ j) (hj : j < n) :
    Calls Try.prog 23 #[.pointer (some ⟨fb, 0, none⟩), .int .i64 (i : Int), .int .i64 (j : Int)] w fun e w' => e = .returned (.int .i64 (lenL l i j : Int)) ∧ Below w.heap.size w w' := by
  have hl := ho.1
  obtain ⟨b, off, rfl, hc⟩ := ho.at_ (by omega)
  have HC := hid hc
  clear ho hc
  go_enter Try.func23, Try.ntmps23
  go_wp2
  go_loopw [7] (fun v wr => ∃ k : Nat, v = .int .i64 (k : Int) ∧ k ≤ 258 ∧ Hid (AlikeTo l i j k) ∧ Hid (Below w.heap.size w wr)) (fun v wr => 258 - (intOf v).toNat)
  case atStart => exact ⟨0, rfl, by omega, hid (fun p hp => by omega), hid (Below.refl _ _)⟩
  case round =>
    obtain ⟨k, rfl, hk, hA, hB⟩ := hrel
    have hf := cells_keep hB.out hf
    by_cases h1 : j + k < n
    · have d1 : decide ((j : Int) + k < n) = true := by simp; omega
      have d1' : decide (j + k < n) = true := by simp; omega
      by_cases h2 : k < 258
      · have d2 : decide ((k : Int) < 258) = true := by simp; omega
        have p0 := cells_keep hB.out (HC.out (i + k) (by omega))
        have p1 := cells_keep hB.out (HC.out (j + k) (by omega))
        obtain ⟨x, hx⟩ : ∃ x, l[i + k]'(by omega) = x := ⟨_, rfl⟩
        obtain ⟨y, hy⟩ : ∃ y, l[j + k]'(by omega) = y := ⟨_, rfl⟩
        rw [hx] at p0
        rw [hy] at p1
        have HX := hid (show l[i + k]? = some x by rw [List.getElem?_eq_getElem (by omega), hx])
        have HY := hid (show l[j + k]? = some y by rw [List.getElem?_eq_getElem (by omega), hy])
        have e0 : (0 : Int) ≤ (i : Int) + k := by omega
        have e1 : (i : Int) + k < n := by omega
        have e2 : (0 : Int) ≤ (j : Int) + k := by omega
        have e3 : (j : Int) + k < n := by omega
        have e4 : ((i : Int) + k).toNat = i + k := by omega
        have e5 : ((j : Int) + k).toNat = j + k := by omega
        clear hx hy
        by_cases h3 : x = y
        · have d3 : ((x.toNat : Int) == y.toNat) = true := by rw [h3]; simp
          have HXY := hid h3
          clear h3
          go_upto_region 2 with fail
          go_quiet (fail)
          go_wp2
          go_roundw
          case rel => exact ⟨k + 1, by go_num, by omega, hid (fun p hp => by
            by_cases hpk : p < k
            · exact hA.out p hpk
            · obtain rfl : p = k := by omega
              exact ⟨by omega, by rw [HX.out, HY.out, HXY.out]⟩), hid (bq hB.out _)⟩
          case measure => simp [intOf]; omega
        · have d3 : ((x.toNat : Int) == y.toNat) = false := by simp; intro h; exact h3 (UInt8.toNat_inj.1 (by omega))
          have HXY := hid h3
          clear h3
          go_upto_region 2 with fail
          go_quiet (fail)
          go_wp2
          go_ret
          refine ⟨?_, bq hB.out _⟩
          rw [lenL_is hA.out hk (Or.inr (fun h => HXY.out (by rw [HX.out, HY.out] at h; exact Option.some.inj h.2)))]
          rfl
      · have d2 : decide ((k : Int) < 258) = false := by simp; omega
        go_upto_region 2 with fail
        go_quiet (fail)
        go_wp2
        go_ret
        refine ⟨?_, bq hB.out _⟩
        rw [lenL_is hA.out hk (Or.inl (by omega))]
        rfl
    · have d1 : decide ((j : Int) + k < n) = false := by simp; omega
      go_upto_region 2 with fail
      go_quiet (fail)
      go_wp2
      go_ret
      refine ⟨?_, bq hB.out _⟩
      rw [lenL_is hA.out hk (Or.inr (fun h => by omega))]
      rfl
end Go.Proofs.Ytaoigplmkckieaa
