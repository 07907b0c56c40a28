/-
  The tokens of octets. A part of the proof: see the head of the text that ends in 'Law'.
-/
import Derived.Test.YtaoigplmkckieaaMa12
namespace Go.Proofs.Ytaoigplmkckieaa
open Go.RowKit
set_option linter.unusedVariables false

/-- The token at p: the octet, or the best match. -/
def tokAt (l : List UInt8) (p : Nat) : Tok := if (bestF l p).1 = 0 then ⟨l.getD p 0, 0, 0⟩ else ⟨0, (bestF l p).1, (bestF l p).2⟩
def stepAt (l : List UInt8) (p : Nat) : Nat := if (bestF l p).1 = 0 then 1 else (bestF l p).1
theorem stepAt_pos (l : List UInt8) (p : Nat) : 1 ≤ stepAt l p := by
  unfold stepAt
  split <;> omega
/-- The tokens from p on. -/
def toks (l : List UInt8) (p : Nat) : List Tok := if p < l.length then tokAt l p :: toks l (p + stepAt l p) else []
termination_by l.length - p
decreasing_by have := stepAt_pos l p; omega
theorem toks_in {l : List UInt8} {p : Nat} (h : p < l.length) : toks l p = tokAt l p :: toks l (p + stepAt l p) := by rw [toks, if_pos h]
theorem toks_out {l : List UInt8} {p : Nat} (h : ¬ p < l.length) : toks l p = [] := by rw [toks, if_neg h]
theorem best_le (l : List UInt8) (p : Nat) : p < l.length → p + stepAt l p ≤ l.length := by
  intro h
  unfold stepAt
  split
  · omega
  · rename_i h0
    rcases bestF_is l p with ⟨h1, _⟩ | ⟨h1, h2, h3, h4, h5, _⟩
    · rw [h1] at h0; simp at h0
    · have := (lenL_in l (p - (bestF l p).2) p ((bestF l p).1 - 1) (by omega)).1
      omega
theorem toks_le (l : List UInt8) : ∀ (m p : Nat), l.length - p ≤ m → (toks l p).length ≤ l.length - p := by
  intro m
  induction m with
  | zero => intro p hp; rw [toks_out (by omega)]; simp
  | succ m ih =>
    intro p hp
    by_cases h : p < l.length
    · rw [toks_in h]
      have h1 := stepAt_pos l p
      have := ih (p + stepAt l p) (by omega)
      simp
      omega
    · rw [toks_out h]; simp
theorem sliceTok : SliceT Try.prog 24 50 (.agg #[.int .u8 0, .int .i64 0, .int .i64 0]) 3 24 := ⟨Try.underlying24, by kernel_rfl, rfl, by decide⟩
def rowOf (ts : List Tok) : List Value := ts.flatMap Tok.cells
theorem rowOf_snoc (ts : List Tok) (t : Tok) : rowOf (ts ++ [t]) = rowOf ts ++ Tok.cells t := by simp [rowOf]
/-- The row of tokens that the call makes. -/
structure TkI (w wr : World) (A' : Option Addr) (c' : Nat) (ts : List Tok) : Prop where
  own : wr.ownsRow w.heap.size 50 3 (.slice A' ts.length c') ts.length (rowOf ts)
  bel : Below w.heap.size w wr
theorem TkI.row {w wr : World} {A' : Option Addr} {c' : Nat} {ts : List Tok} (h : TkI w wr A' c' ts) : TRow wr A' ts.length ts := ⟨rfl, Row.of_own h.own⟩
theorem TkI.far {w wr w2 : World} {A' : Option Addr} {c' : Nat} {ts : List Tok} (h : TkI w wr A' c' ts) (hb : Below wr.heap.size wr w2) : TkI w w2 A' c' ts := ⟨own_below h.own hb, h.bel.trans (hb.mono h.bel.size)⟩
theorem TkI.app {w wr w3 : World} {A' A2 : Option Addr} {c' c2 : Nat} {ts : List Tok} {t : Tok} (o : Obj) (h : TkI w wr A' c' ts) (ho : w3.ownsRow w.heap.size 50 3 (.slice A2 (ts.length + 1) c2) (ts.length + 1) (rowOf ts ++ Tok.cells t))
    (hg : (wr.alloc o).grownBy w3 (Value.slice A' ts.length c').ownBlock) : TkI w w3 A2 c2 (ts ++ [t]) := by
  refine ⟨?_, (h.bel.trans (((Below.refl _ wr).alloc (Nat.le_refl _) o).mono h.bel.size)).grown hg (by have := h.bel.size; simp; omega) (fun r e => own_base h.own r e)⟩
  rw [List.length_append, rowOf_snoc]
  exact ho
def FindPost (w : World) (ts : List Tok) (E : Nat) (e : Ending) (w' : World) : Prop := ∃ A' c', e = .returned (.tuple #[.slice A' ts.length c', .int .i64 (E : Int)]) ∧ TRow w' A' ts.length ts ∧ ts.length ≤ c' ∧ c' ≤ maxLen ∧ Below w.heap.size w w'
def RFindPost (w : World) (ts : List Tok) (e : Ending) (w' : World) : Prop := ∃ A' c', e = .returned (.slice A' ts.length c') ∧ TRow w' A' ts.length ts ∧ Below w.heap.size w w'

set_option maxHeartbeats 4000000 in
theorem refFind_any (w : World) (n c : Nat) (A : Option Addr) (l : List UInt8) (ho : Oct w A n l) (hn : n ≤ 65536) :
    Calls Try.prog 12 #[.slice A n c] w (RFindPost w (toks l 0)) := by
  have hl := ho.1
  have HO := hid ho
  clear ho
  go_enter Try.func12, Try.ntmps12
  go_wp2
  go_loopw [3, 4] (fun o a wr => ∃ (k : Nat) (ts : List Tok) (A' : Option Addr) (c' : Nat), k ≤ n ∧ a = .int .i64 (k : Int) ∧ o = .slice A' ts.length c' ∧ ts.length ≤ k ∧ Hid (toks l 0 = ts ++ toks l k) ∧ Hid (TkI w wr A' c' ts)) (fun o a wr => n - (intOf a).toNat)
  case atStart => exact ⟨0, [], none, 0, by omega, rfl, rfl, by simp, hid rfl, hid ⟨World.ownsRow_nil _ _ _ _, Below.refl _ _⟩⟩
  case round =>
    obtain ⟨k, ts, A', c', hk, rfl, rfl, htk, hT, hI⟩ := hrel
    by_cases hlt : k < n
    · have d1 : decide (k < n) = true := by simpa using hlt
      have hs := best_le l k (by omega)
      have hst := stepAt_pos l k
      have hT2 := hT.out
      rw [toks_in (show k < l.length by omega)] at hT2
      by_cases h0 : (bestF l k).1 = 0
      · have e0 : (((bestF l k).1 : Int) == 0) = true := by simp; omega
        have e0' : ((bestF l k).1 == 0) = true := by simp; omega
        have hO := HO.out.below hI.out.bel
        obtain ⟨b, off, rfl, hc⟩ := hO.at_ (by omega)
        have p0 := hc k (by omega)
        obtain ⟨x, hx⟩ : ∃ x, l[k]'(by omega) = x := ⟨_, rfl⟩
        rw [hx] at p0
        have hta : tokAt l k = ⟨x, 0, 0⟩ := by
          unfold tokAt
          rw [if_pos h0, List.getD_eq_getElem?_getD, List.getElem?_eq_getElem (by omega), hx]
          rfl
        have hsa : stepAt l k = 1 := by unfold stepAt; rw [if_pos h0]
        rw [hta, hsa] at hT2
        have HT2 := hid hT2
        clear hO hc hx hT2 hta hsa hs hst h0
        go_wp2_with (first
          | (
            go_at_call 17
            refine (refBest_any wr n c (some ⟨b, off, none⟩) l (HO.out.below hI.out.bel) hn k hlt).mono ?_
            rintro e w2 ⟨rfl, hb2⟩
            have p0 := cells_keep hb2 p0
            have hI2 := hid (hI.out.far hb2)
            have hs2 := hI2.out.bel.size)
          | (
            at_builtin
            refine wpList_append_row _ rfl (.tmp 19) (.tmp 25) sliceTok rfl w.heap.size (.slice A' ts.length c') ts.length (rowOf ts) rfl (own_below hI2.out.own ((Below.refl _ w2).alloc (Nat.le_refl _) _)) (some ⟨w2.heap.size, 0, none⟩) 1 1 [.int .u8 (x.toNat : Int), .int .i64 0, .int .i64 0] rfl rfl (Row.of_block (heap_alloc_new w2 (Obj.cells #[.int .u8 (x.toNat : Int), .int .i64 0, .int .i64 0] 50))) (by simp [Value.oneCell']) (by unfold maxLen; omega) (by omega) (by simp; omega) ?_
            intro A3 c3 w3 hown3 hg3 hl3
            have hI3 := hid (TkI.app (t := ⟨x, 0, 0⟩) _ hI2.out hown3 hg3)
            clear hown3 hg3 hl3))
        go_roundw
        case rel => exact ⟨k + 1, ts ++ [⟨x, 0, 0⟩], A3, c3, by omega, by go_num, by simp, by simp; omega, hid (by rw [HT2.out, List.append_assoc]; rfl), hI3⟩
        case measure => simp [intOf]; omega
      · have e0 : (((bestF l k).1 : Int) == 0) = false := by simp; omega
        have e0' : ((bestF l k).1 == 0) = false := by simp; omega
        have hta : tokAt l k = ⟨0, (bestF l k).1, (bestF l k).2⟩ := by unfold tokAt; rw [if_neg h0]
        have hsa : stepAt l k = (bestF l k).1 := by unfold stepAt; rw [if_neg h0]
        rw [hsa] at hs hst
        rw [hta, hsa] at hT2
        have hrb := refBest_any wr n c A l (HO.out.below hI.out.bel) hn k hlt
        obtain ⟨⟨bm, bd⟩, hbm⟩ : ∃ m, bestF l k = m := ⟨_, rfl⟩
        rw [hbm] at hT2 hs hst e0 e0' hrb
        have HT2 := hid hT2
        have HRB := hid hrb
        clear hT2 hta hsa h0 hbm hrb
        dsimp only at hs hst e0 e0'
        go_wp2_with (first
          | (
            go_at_call 17
            refine HRB.out.mono ?_
            rintro e w2 ⟨rfl, hb2⟩
            have hI2 := hid (hI.out.far hb2)
            have hs2 := hI2.out.bel.size)
          | (
            at_builtin
            refine wpList_append_row _ rfl (.tmp 29) (.tmp 33) sliceTok rfl w.heap.size (.slice A' ts.length c') ts.length (rowOf ts) rfl (own_below hI2.out.own ((Below.refl _ w2).alloc (Nat.le_refl _) _)) (some ⟨w2.heap.size, 0, none⟩) 1 1 [.int .u8 0, .int .i64 (bm : Int), .int .i64 (bd : Int)] rfl rfl (Row.of_block (heap_alloc_new w2 (Obj.cells #[.int .u8 0, .int .i64 (bm : Int), .int .i64 (bd : Int)] 50))) (by simp [Value.oneCell']) (by unfold maxLen; omega) (by omega) (by simp; omega) ?_
            intro A3 c3 w3 hown3 hg3 hl3
            have hI3 := hid (TkI.app (t := ⟨0, bm, bd⟩) _ hI2.out hown3 hg3)
            clear hown3 hg3 hl3))
        go_roundw
        case rel => exact ⟨k + bm, ts ++ [⟨0, bm, bd⟩], A3, c3, by omega, by go_num, by simp, by simp; omega, hid (by rw [HT2.out, List.append_assoc]; rfl), hI3⟩
        case measure => simp [intOf]; omega
    · have d1 : decide (k < n) = false := by simpa using hlt
      have hT2 := hT.out
      rw [toks_out (show ¬ k < l.length by omega), List.append_nil] at hT2
      have HT2 := hid hT2
      clear hT2
      go_wp2
      go_ret
      rw [HT2.out]
      exact ⟨A', c', rfl, hI.out.row, hI.out.bel⟩
end Go.Proofs.Ytaoigplmkckieaa
