/-
  The walks of the law's same and of the document's Turn. A part of the proof: see the head of the text that ends in 'Law'.
-/
import Derived.Test.YtccdgfacdohknaaSp8
namespace Go.Proofs.Ytccdgfacdohknaa
open Go.RowKit
set_option linter.unusedVariables false

/-- A slice of n numbers at A reads as xs. -/
def IRow (w : World) (A : Option Addr) (n : Nat) (xs : List Int) : Prop := xs.length = n ∧ Row w A (xs.map (Value.int .i64))
theorem IRow.below {w w' : World} {A : Option Addr} {n : Nat} {xs : List Int} (h : IRow w A n xs) (hb : Below w.heap.size w w') : IRow w' A n xs := ⟨h.1, h.2.below hb⟩
theorem IRow.nil (w : World) (A : Option Addr) : IRow w A 0 [] := ⟨rfl, Row.nil _ _⟩
theorem IRow.at_ {w : World} {A : Option Addr} {n : Nat} {xs : List Int} (h : IRow w A n xs) (hn : 0 < n) :
    ∃ b off, A = some ⟨b, off, none⟩ ∧ ∀ j (hj : j < xs.length), w.cell? ⟨b, off + j, none⟩ = some (.int .i64 xs[j]) := by
  obtain ⟨b, off, hA, hc⟩ := h.2 (by have := h.1; intro e; simp at e; subst e; simp at this; omega)
  exact ⟨b, off, hA, fun j hj => hc j _ (by simp [hj])⟩

set_option maxHeartbeats 1000000 in
theorem ints_any (A B : Option Addr) (n c m d : Nat) (xs ys : List Int) (w : World) (ha : IRow w A n xs) (hb : IRow w B m ys) (hn : n ≤ 100000) :
    Calls Try.prog 16 #[.slice A n c, .slice B m d] w fun e w' => e = .returned (.bool (xs == ys)) ∧ Below w.heap.size w w' := by
  have HA := hid ha
  have HB := hid hb
  have hla := hid ha.1
  have hlb := hid hb.1
  clear ha hb
  by_cases h : n = m
  · subst h
    have h1 : ((n : Int) != n) = false := by simp
    go_enter Try.func16, Try.ntmps16
    go_wp2
    go_loopw [5] (fun i wr => ∃ k : Nat, k ≤ n ∧ i = .int .i64 k ∧ Hid ((∀ j, j < k → xs[j]? = ys[j]?) ∧ Below w.heap.size w wr)) (fun i wr => n - (intOf i).toNat)
    case atStart => exact ⟨0, by omega, rfl, hid ⟨fun j hj => by omega, Below.refl _ _⟩⟩
    case round =>
      obtain ⟨k, hk, rfl, hI⟩ := hrel
      by_cases hlt : k < n
      · have hd : decide (k < n) = true := by simpa using hlt
        obtain ⟨b, off, rfl, hc⟩ := HA.out.at_ (by omega)
        obtain ⟨b', off', rfl, hc'⟩ := HB.out.at_ (by omega)
        obtain ⟨x, hx, hcx⟩ : ∃ x, Hid (xs[k]? = some x) ∧ wr.cell? ⟨b, off + k, none⟩ = some (.int .i64 x) := ⟨xs[k]'(by rw [hla.out]; exact hlt), hid (List.getElem?_eq_getElem _), cells_keep hI.out.2 (hc k (by rw [hla.out]; exact hlt))⟩
        obtain ⟨y, hy, hcy⟩ : ∃ y, Hid (ys[k]? = some y) ∧ wr.cell? ⟨b', off' + k, none⟩ = some (.int .i64 y) := ⟨ys[k]'(by rw [hlb.out]; exact hlt), hid (List.getElem?_eq_getElem _), cells_keep hI.out.2 (hc' k (by rw [hlb.out]; exact hlt))⟩
        have hi0 : (0 : Int) ≤ k := by omega
        have hi1 : (k : Int) < n := by omega
        clear hc hc'
        by_cases hxy : x = y
        · subst hxy
          go_wp2
          go_quiet (fail)
          go_wp2
          go_roundw
          case rel =>
            refine ⟨k + 1, by omega, by go_num, hid ⟨fun j hj => ?_, bq hI.out.2 _⟩⟩
            by_cases hjk : j < k
            · exact hI.out.1 j hjk
            · obtain rfl : j = k := by omega
              rw [hx.out, hy.out]
          case measure => simp [intOf]; omega
        · have e1 : (x != y) = true := by simpa using hxy
          have e2 : (x == y) = false := by simpa using hxy
          have HXY := hid hxy
          clear hxy
          go_wp2
          go_quiet (fail)
          go_wp2
          go_ret
          have : (xs == ys) = false := by
            rw [beq_eq_false_iff_ne]
            rintro rfl
            have := hx.out.symm.trans hy.out
            injection this with this
            exact HXY.out this
          exact ⟨by rw [this]; rfl, bq hI.out.2 _⟩
      · have hd : decide (k < n) = false := by simpa using hlt
        go_wp2
        go_ret
        have : (xs == ys) = true := by
          rw [beq_iff_eq]
          apply List.ext_getElem?
          intro j
          by_cases hj : j < n
          · exact hI.out.1 j (by omega)
          · rw [List.getElem?_eq_none (by rw [hla.out]; omega), List.getElem?_eq_none (by rw [hlb.out]; omega)]
        exact ⟨by rw [this]; rfl, hI.out.2⟩
  · have h1 : ((n : Int) != m) = true := by simp; omega
    have e : (xs == ys) = false := by
      rw [beq_eq_false_iff_ne]
      rintro rfl
      exact h (hla.out.symm.trans hlb.out)
    rw [e]
    clear h e
    go_enter Try.func16, Try.ntmps16
    go_wp2
    go_ret
    exact ⟨rfl, Below.refl _ _⟩
end Go.Proofs.Ytccdgfacdohknaa
