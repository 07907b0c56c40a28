/-
  A part of the proof: see the head of the text that ends in 'Law'.
-/
import Derived.Test.YtccibhgdpfmjlaaCrcRef
namespace Go.Proofs.Ytccibhgdpfmjlaa
open Go.RowKit
set_option linter.unusedVariables false

theorem drop4 {l : List UInt8} {m : Nat} (h : l.length = m + 4) : ∃ x0 x1 x2 x3, l.drop m = [x0, x1, x2, x3] := by
  have : (l.drop m).length = 4 := by simp; omega
  match hd : l.drop m, this with
  | [a, b, c, d], _ => exact ⟨a, b, c, d, rfl⟩
theorem getElem_of_drop {l : List UInt8} {m : Nat} {r : List UInt8} (h : l.drop m = r) (j : Nat) (hj : j < r.length) : ∃ hl : m + j < l.length, l[m + j] = r[j] := by
  subst h
  have : m + j < l.length := by simp at hj; omega
  exact ⟨this, by simp⟩

theorem keep4 {w w1 : World} (hb : Below w.heap.size w w1) {a0 a1 a2 a3 : Addr} {v0 v1 v2 v3 : Value} (h : w.cell? a0 = some v0 ∧ w.cell? a1 = some v1 ∧ w.cell? a2 = some v2 ∧ w.cell? a3 = some v3) :
    w1.cell? a0 = some v0 ∧ w1.cell? a1 = some v1 ∧ w1.cell? a2 = some v2 ∧ w1.cell? a3 = some v3 := by
  have k : ∀ {a : Addr} {v : Value}, w.cell? a = some v → w1.cell? a = some v := fun {a} {v} hc => by rw [hb.cell (World.block_lt_of_cell? w a hc)]; exact hc
  exact ⟨k h.1, k h.2.1, k h.2.2.1, k h.2.2.2⟩

theorem size5 : ∀ w, (sizeOf 5).run Try.prog w = .ok 1 w := fun w => by kernel_rfl

set_option maxHeartbeats 400000 in
theorem open_short (A : Option Addr) (n c : Nat) (w : World) (h4 : n < 4) :
    Calls Try.prog 16 #[.slice A n c] w fun e w' => e = .returned (.tuple #[.slice none 0 0, .int .i64 2]) ∧ w = w' := by
  go_enter Try.func16, Try.ntmps16
  go_wp2
  go_ret2
  exact ⟨rfl, rfl⟩

set_option maxHeartbeats 400000 in
theorem open_bad (A : Option Addr) (m c : Nat) (l : List UInt8) (w : World) (ho : Oct w A (m + 4) l) (hc : m + 4 ≤ c) (hm : m ≤ 2147483640) (hq : le4 (sumL (l.take m)) ≠ l.drop m) :
    Calls Try.prog 16 #[.slice A (m + 4) c] w fun e w' => e = .returned (.tuple #[.slice none 0 0, .int .i64 9]) ∧ Below w.heap.size w w' := by
  obtain ⟨x0, x1, x2, x3, hd⟩ := drop4 ho.len
  obtain ⟨b, off, rfl, hcell⟩ := ho.at_ (by omega)
  have ht := ho.take m (by omega)
  have hneq : ∀ W, (binOp .neq 42 (.agg (four (sumL (l.take m)))) (.agg #[.int .u8 (x0.toNat : Int), .int .u8 (x1.toNat : Int), .int .u8 (x2.toNat : Int), .int .u8 (x3.toNat : Int)])).run Try.prog W = .ok (.bool true) W := fun W => by
    have h := run_neq_oct (P := Try.prog) W Try.underlying42 Try.underlying5 size5 (le4 (sumL (l.take m))) [x0, x1, x2, x3] rfl rfl
    rw [hd] at hq
    have e : (le4 (sumL (l.take m)) == [x0, x1, x2, x3]) = false := by rw [beq_eq_false_iff_ne]; exact hq
    rw [e] at h
    exact h
  have hcap : ¬ c = m := by omega
  have hi0 : (0 : Int) ≤ (m : Int) := by omega
  have hi1 : (m : Int) ≤ (c : Int) := by omega
  have hi2 : (m : Int) ≤ ((m + 4 : Nat) : Int) := by omega
  have hi3 : (m : Int) ≤ (m : Int) + 4 := by omega
  have hi4 : m ≤ c := by omega
  have harr := fun W => run_arrayAt (P := Try.prog) W 42 5 4 (some ⟨b, off + m, none⟩) 4 (c - m) Try.underlying42 (by omega)
  have cells : ∀ j, (hj : j < 4) → w.cell? ⟨b, off + (m + j), none⟩ = some (.int .u8 ((([x0, x1, x2, x3][j]'hj).toNat : Nat) : Int)) := fun j hj => by
    obtain ⟨hl, e⟩ := getElem_of_drop hd j hj
    rw [hcell _ hl, e]
  have c0 := cells 0 (by omega)
  have c1 := cells 1 (by omega)
  have c2 := cells 2 (by omega)
  have c3 := cells 3 (by omega)
  have hbl : b < w.heap.size := World.block_lt_of_cell? w _ c0
  simp only [List.getElem_cons_zero, List.getElem_cons_succ, Nat.add_zero, ← Nat.add_assoc] at c0 c1 c2 c3
  have HD := hid hd
  have HT := ht
  clear hcell cells hd hq ho
  go_enter Try.func16, Try.ntmps16
  go_wp2
  go_region_held3 (fun w' => w'.cell? ⟨b, off + m, none⟩ = some (.int .u8 (x0.toNat : Int)) ∧ w'.cell? ⟨b, off + m + 1, none⟩ = some (.int .u8 (x1.toNat : Int)) ∧ w'.cell? ⟨b, off + m + 2, none⟩ = some (.int .u8 (x2.toNat : Int)) ∧ w'.cell? ⟨b, off + m + 3, none⟩ = some (.int .u8 (x3.toNat : Int))) (go_keep) (first
    | (go_at_call 9; refine (sum_any _ _ _ (l.take m) _ HT.drew (by omega)).mono ?_; rintro e w1 ⟨rfl, hb1⟩; have k1 := keep4 hb1 (a0 := ⟨b, off + m, none⟩) (a1 := ⟨b, off + m + 1, none⟩) (a2 := ⟨b, off + m + 2, none⟩) (a3 := ⟨b, off + m + 3, none⟩) ⟨c0, c1, c2, c3⟩)
    | (go_at_call 18; refine (four_any _ _ (sumL_lt _)).mono ?_; rintro e w2 ⟨rfl, hb2⟩; have k2 := keep4 hb2 k1))
  all_goals
    have hbz : Below w.heap.size w w2 := ((Below.refl _ w).drew.trans (hb1.mono (Nat.le_refl _))).trans (hb2.mono hb1.size)
    go_wp2
    go_ret2
    exact ⟨rfl, hbz⟩
set_option maxHeartbeats 400000 in
theorem open_own (A : Option Addr) (m c : Nat) (l : List UInt8) (w : World) (ho : Oct w A (m + 4) l) (hc : m + 4 ≤ c) (hm : m ≤ 2147483640) (hq : le4 (sumL (l.take m)) = l.drop m) :
    Calls Try.prog 16 #[.slice A (m + 4) c] w fun e w' => ∃ A' c', e = .returned (.tuple #[.slice A' m c', .int .i64 0]) ∧ w'.ownsRow w.heap.size 5 1 (.slice A' m c') m ((l.take m).map B8) ∧ Below w.heap.size w w' := by
  obtain ⟨x0, x1, x2, x3, hd⟩ := drop4 ho.len
  obtain ⟨b, off, rfl, hcell⟩ := ho.at_ (by omega)
  have ht := ho.take m (by omega)
  have hneq : ∀ W, (binOp .neq 42 (.agg (four (sumL (l.take m)))) (.agg #[.int .u8 (x0.toNat : Int), .int .u8 (x1.toNat : Int), .int .u8 (x2.toNat : Int), .int .u8 (x3.toNat : Int)])).run Try.prog W = .ok (.bool false) W := fun W => by
    have h := run_neq_oct (P := Try.prog) W Try.underlying42 Try.underlying5 size5 (le4 (sumL (l.take m))) [x0, x1, x2, x3] rfl rfl
    rw [hd] at hq
    have e : (le4 (sumL (l.take m)) == [x0, x1, x2, x3]) = true := by rw [beq_iff_eq]; exact hq
    rw [e] at h
    exact h
  have hcap : ¬ c = m := by omega
  have hi0 : (0 : Int) ≤ (m : Int) := by omega
  have hi1 : (m : Int) ≤ (c : Int) := by omega
  have hi2 : (m : Int) ≤ ((m + 4 : Nat) : Int) := by omega
  have hi3 : (m : Int) ≤ (m : Int) + 4 := by omega
  have hi4 : m ≤ c := by omega
  have harr := fun W => run_arrayAt (P := Try.prog) W 42 5 4 (some ⟨b, off + m, none⟩) 4 (c - m) Try.underlying42 (by omega)
  have cells : ∀ j, (hj : j < 4) → w.cell? ⟨b, off + (m + j), none⟩ = some (.int .u8 ((([x0, x1, x2, x3][j]'hj).toNat : Nat) : Int)) := fun j hj => by
    obtain ⟨hl, e⟩ := getElem_of_drop hd j hj
    rw [hcell _ hl, e]
  have c0 := cells 0 (by omega)
  have c1 := cells 1 (by omega)
  have c2 := cells 2 (by omega)
  have c3 := cells 3 (by omega)
  have hbl : b < w.heap.size := World.block_lt_of_cell? w _ c0
  simp only [List.getElem_cons_zero, List.getElem_cons_succ, Nat.add_zero, ← Nat.add_assoc] at c0 c1 c2 c3
  have HD := hid hd
  have HT := ht
  clear hcell cells hd hq ho
  go_enter Try.func16, Try.ntmps16
  go_wp2
  go_region_held3 (fun w' => w'.cell? ⟨b, off + m, none⟩ = some (.int .u8 (x0.toNat : Int)) ∧ w'.cell? ⟨b, off + m + 1, none⟩ = some (.int .u8 (x1.toNat : Int)) ∧ w'.cell? ⟨b, off + m + 2, none⟩ = some (.int .u8 (x2.toNat : Int)) ∧ w'.cell? ⟨b, off + m + 3, none⟩ = some (.int .u8 (x3.toNat : Int))) (go_keep) (first
    | (go_at_call 9; refine (sum_any _ _ _ (l.take m) _ HT.drew (by omega)).mono ?_; rintro e w1 ⟨rfl, hb1⟩; have k1 := keep4 hb1 (a0 := ⟨b, off + m, none⟩) (a1 := ⟨b, off + m + 1, none⟩) (a2 := ⟨b, off + m + 2, none⟩) (a3 := ⟨b, off + m + 3, none⟩) ⟨c0, c1, c2, c3⟩)
    | (go_at_call 18; refine (four_any _ _ (sumL_lt _)).mono ?_; rintro e w2 ⟨rfl, hb2⟩; have k2 := keep4 hb2 k1))
  all_goals
    have hbz : Below w.heap.size w w2 := ((Below.refl _ w).drew.trans (hb1.mono (Nat.le_refl _))).trans (hb2.mono hb1.size)
    have HT2 := ht.below hbz
    go_wp2_with (
      (refine wpList_append_row _ rfl (.const (.slice none 0 0)) (.tmp 23) bytesT rfl w.heap.size (.slice none 0 0) 0 [] rfl (World.ownsRow_nil _ _ _ _) (some ⟨b, off, none⟩) m c ((l.take m).map B8) rfl HT2.cells_len HT2.2 (one_B8 _) (by simp only [maxLen]; omega) (by omega) hbz.size ?_
       intro A1 cc w3 hown1 hgr1 hat1
       have hb3 : Below w.heap.size w w3 := hbz.grown hgr1 hbz.size (fun k hk => by simp [Value.ownBlock] at hk)
       simp only [Nat.zero_add, List.nil_append] at hown1 hat1
       clear hgr1))
    go_ret2
    exact ⟨A1, cc, rfl, hown1, hb3⟩

theorem open_good (A : Option Addr) (m c : Nat) (l : List UInt8) (w : World) (ho : Oct w A (m + 4) l) (hc : m + 4 ≤ c) (hm : m ≤ 2147483640) (hq : le4 (sumL (l.take m)) = l.drop m) :
    Calls Try.prog 16 #[.slice A (m + 4) c] w fun e w' => ∃ A' c', e = .returned (.tuple #[.slice A' m c', .int .i64 0]) ∧ m ≤ c' ∧ Oct w' A' m (l.take m) ∧ Below w.heap.size w w' :=
  (open_own A m c l w ho hc hm hq).mono fun e w' ⟨A', c', he, hown, hb⟩ => ⟨A', c', he, (own_cap hown).1, ⟨(ho.take m (by omega)).len, Row.of_own hown⟩, hb⟩
end Go.Proofs.Ytccibhgdpfmjlaa
