/-
  Rows of tokens; the same tokens. A part of the proof: see the head of the text that ends in 'Law'.
-/
import Derived.Test.YtaoigplmkckieaaMa1
namespace Go.Proofs.Ytaoigplmkckieaa
open Go.RowKit
set_option linter.unusedVariables false

def TRow (w : World) (A : Option Addr) (n : Nat) (l : List Tok) : Prop := l.length = n ∧ Row w A (l.flatMap Tok.cells)
theorem TRow.below {w w' : World} {A : Option Addr} {n : Nat} {l : List Tok} (h : TRow w A n l) (hb : Below w.heap.size w w') : TRow w' A n l := ⟨h.1, h.2.below hb⟩
theorem flat_get (l : List Tok) (i j : Nat) (hi : i < l.length) (hj : j < 3) : (l.flatMap Tok.cells)[3 * i + j]? = (Tok.cells l[i])[j]? := by
  induction l generalizing i with
  | nil => simp at hi
  | cons t l ih =>
    rw [List.flatMap_cons]
    cases i with
    | zero => rw [List.getElem?_append_left (by simp [Tok.cells]; omega)]; simp
    | succ i =>
      rw [List.getElem?_append_right (by simp [Tok.cells]; omega)]
      have : 3 * (i + 1) + j - (Tok.cells t).length = 3 * i + j := by simp [Tok.cells]; omega
      rw [this, ih i (by simpa using hi)]
      simp
theorem TRow.at_ {w : World} {A : Option Addr} {n : Nat} {l : List Tok} (h : TRow w A n l) (hn : 0 < n) :
    ∃ b off, A = some ⟨b, off, none⟩ ∧ ∀ i (hi : i < l.length), w.cell? ⟨b, off + i * 3, none⟩ = some (.int .u8 l[i].lit.toNat) ∧ w.cell? ⟨b, off + i * 3 + 1, none⟩ = some (.int .i64 l[i].len) ∧ w.cell? ⟨b, off + i * 3 + 2, none⟩ = some (.int .i64 l[i].dist) := by
  have hne : l.flatMap Tok.cells ≠ [] := by
    cases l with
    | nil => have := h.1; simp at this; omega
    | cons t l => simp [Tok.cells]
  obtain ⟨b, off, hA, hc⟩ := h.2 hne
  refine ⟨b, off, hA, fun i hi => ?_⟩
  rw [Nat.mul_comm i 3]
  refine ⟨?_, ?_, ?_⟩
  · exact hc (3 * i) _ (by have := flat_get l i 0 hi (by omega); rw [Nat.add_zero] at this; exact this)
  · rw [Nat.add_assoc]; exact hc (3 * i + 1) _ (by rw [flat_get l i 1 hi (by omega)]; rfl)
  · rw [Nat.add_assoc]; exact hc (3 * i + 2) _ (by rw [flat_get l i 2 hi (by omega)]; rfl)

theorem run_equal_tok (w : World) (x y : Tok) : (Op.equalIn 10000 50 (.agg #[.int .u8 x.lit.toNat, .int .i64 x.len, .int .i64 x.dist]) (.agg #[.int .u8 y.lit.toNat, .int .i64 y.len, .int .i64 y.dist])).run Try.prog w = .ok (decide (x = y)) w := by
  rw [run_equalIn_struct w 9999 50 _ _ (by kernel_rfl) (by kernel_rfl)]
  simp [Program.fieldsOf, Try.underlying50, Op.eqFields, go_sem]
  have h : (x = y) ↔ ((x.lit.toNat : Int) = y.lit.toNat ∧ x.len = y.len ∧ x.dist = y.dist) := by
    constructor
    · rintro rfl; exact ⟨rfl, rfl, rfl⟩
    · rintro ⟨h1, h2, h3⟩
      cases x
      cases y
      simp only [Tok.mk.injEq]
      exact ⟨UInt8.toNat_inj.1 (by simp only at h1; omega), h2, h3⟩
  by_cases h1 : (x.lit.toNat : Int) = y.lit.toNat
  · rw [if_pos h1]
    by_cases h2 : x.len = y.len
    · rw [if_pos h2]
      by_cases h3 : x.dist = y.dist
      · rw [if_pos h3, decide_eq_true (h.2 ⟨h1, h2, h3⟩)]
      · rw [if_neg h3, decide_eq_false (fun he => h3 (h.1 he).2.2)]
    · rw [if_neg h2, decide_eq_false (fun he => h2 (h.1 he).2.1)]
  · rw [if_neg h1, decide_eq_false (fun he => h1 (h.1 he).1)]
set_option maxHeartbeats 1000000 in
theorem sameT_any (A B : Option Addr) (n c m d : Nat) (xs ys : List Tok) (w : World) (ha : TRow w A n xs) (hb : TRow w B m ys) (hn : n ≤ 100000) :
    Calls Try.prog 11 #[.slice A n c, .slice B m d] w fun e w' => e = .returned (.bool (decide (xs = ys))) ∧ Below w.heap.size w w' := by
  have HA := hid ha
  have HB := hid hb
  have hla := hid ha.1
  have hlb := hid hb.1
  clear ha hb
  by_cases h : n = m
  · subst h
    have h1 : ((n : Int) != n) = false := by simp
    go_enter Try.func11, Try.ntmps11
    go_wp2
    go_loopw [5] (fun i wr => ∃ k : Nat, k ≤ n ∧ i = .int .i64 k ∧ Hid ((∀ j, j < k → xs[j]? = ys[j]?) ∧ Below w.heap.size w wr)) (fun i wr => n - (intOf i).toNat)
    case atStart => exact ⟨0, by omega, rfl, hid ⟨fun j hj => by omega, Below.refl _ _⟩⟩
    case round =>
      obtain ⟨k, hk, rfl, hI⟩ := hrel
      by_cases hlt : k < n
      · have hd : decide (k < n) = true := by simpa using hlt
        obtain ⟨b, off, rfl, hc⟩ := HA.out.at_ (by omega)
        obtain ⟨b', off', rfl, hc'⟩ := HB.out.at_ (by omega)
        have hkx : k < xs.length := by rw [hla.out]; exact hlt
        have hky : k < ys.length := by rw [hlb.out]; exact hlt
        obtain ⟨x, hx⟩ : ∃ x, xs[k] = x := ⟨_, rfl⟩
        obtain ⟨y, hy⟩ : ∃ y, ys[k] = y := ⟨_, rfl⟩
        obtain ⟨p0, p1, p2⟩ := hc k hkx
        obtain ⟨q0, q1, q2⟩ := hc' k hky
        have p0 := cells_keep hI.out.2 p0
        have p1 := cells_keep hI.out.2 p1
        have p2 := cells_keep hI.out.2 p2
        have q0 := cells_keep hI.out.2 q0
        have q1 := cells_keep hI.out.2 q1
        have q2 := cells_keep hI.out.2 q2
        rw [hx] at p0 p1 p2
        rw [hy] at q0 q1 q2
        have HX := hid (show xs[k]? = some x by rw [List.getElem?_eq_getElem hkx, hx])
        have HY := hid (show ys[k]? = some y by rw [List.getElem?_eq_getElem hky, hy])
        have hi0 : (0 : Int) ≤ k := by omega
        have hi1 : (k : Int) < n := by omega
        clear hc hc' hx hy
        go_upto_region 6 with fail
        have hq := fun W => run_equal_tok W x y
        have hg : Try.prog.eqGuardType Try.prog.depth 50 = false := by kernel_rfl
        cases hxy : decide (x = y) with
        | true =>
          rw [hxy] at hq
          have HXY := hid (of_decide_eq_true hxy)
          clear hxy
          go_quiet (fail)
          go_wp2
          go_roundw
          case rel =>
            refine ⟨k + 1, by omega, by go_num, hid ⟨fun j hj => ?_, bq hI.out.2 _⟩⟩
            by_cases hjk : j < k
            · exact hI.out.1 j hjk
            · obtain rfl : j = k := by omega
              rw [HX.out, HY.out, HXY.out]
          case measure => simp [intOf]; omega
        | false =>
          rw [hxy] at hq
          have HXY := hid (of_decide_eq_false hxy)
          clear hxy
          go_quiet (fail)
          go_wp2
          go_ret
          have : decide (xs = ys) = false := by
            rw [decide_eq_false_iff_not]
            rintro rfl
            have := HX.out.symm.trans HY.out
            injection this with this
            exact HXY.out this
          exact ⟨by rw [this]; rfl, bq hI.out.2 _⟩
      · have hd : decide (k < n) = false := by simpa using hlt
        go_wp2
        go_ret
        have : decide (xs = ys) = true := by
          rw [decide_eq_true_eq]
          apply List.ext_getElem?
          intro j
          by_cases hj : j < n
          · exact hI.out.1 j (by omega)
          · rw [List.getElem?_eq_none (by rw [hla.out]; omega), List.getElem?_eq_none (by rw [hlb.out]; omega)]
        exact ⟨by rw [this]; rfl, hI.out.2⟩
  · have h1 : ((n : Int) != m) = true := by simp; omega
    have e : decide (xs = ys) = false := by
      rw [decide_eq_false_iff_not]
      rintro rfl
      exact h (hla.out.symm.trans hlb.out)
    rw [e]
    clear h e
    go_enter Try.func11, Try.ntmps11
    go_wp2
    go_ret
    exact ⟨rfl, Below.refl _ _⟩
theorem TRow.take {w : World} {A : Option Addr} {n : Nat} {l : List Tok} (h : TRow w A n l) (k : Nat) (hk : k ≤ n) : TRow w A k (l.take k) := by
  refine ⟨by rw [List.length_take, h.1]; omega, fun hn => ?_⟩
  have hne : l.flatMap Tok.cells ≠ [] := by
    rintro h0
    apply hn
    rw [List.flatMap_eq_nil_iff] at h0 ⊢
    intro t ht
    exact h0 t (List.mem_of_mem_take ht)
  obtain ⟨b, off, hA, hc⟩ := h.2 hne
  refine ⟨b, off, hA, fun j v hj => hc j v ?_⟩
  rw [← List.take_append_drop k l, List.flatMap_append]
  exact (List.getElem?_append_left (List.getElem?_eq_some_iff.1 hj).1).trans hj
end Go.Proofs.Ytaoigplmkckieaa
