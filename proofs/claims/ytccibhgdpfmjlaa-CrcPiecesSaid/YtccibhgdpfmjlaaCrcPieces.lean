/-
  The walk of the law CrcPieces: it returns true at whatever pieces. A part of the proof: see the head of the text that ends in 'Law'.
-/
import Derived.Test.YtccibhgdpfmjlaaCrcSums
namespace Go.Proofs.Ytccibhgdpfmjlaa
open Go.RowKit
set_option linter.unusedVariables false

/-- The first k pieces, each cut at 500. -/
def cat (L : List Sl) (k : Nat) : List UInt8 := (L.take k).flatMap fun s => s.l.take 500
theorem cat_succ (L : List Sl) (k : Nat) (hk : k < L.length) : cat L (k + 1) = cat L k ++ L[k].l.take 500 := by
  unfold cat
  rw [List.take_succ_eq_append_getElem hk, List.flatMap_append]
  simp
theorem cat_len (L : List Sl) (k : Nat) : (cat L k).length ≤ 500 * k := by
  induction k with
  | zero => simp [cat]
  | succ k ih =>
    by_cases hk : k < L.length
    · rw [cat_succ L k hk, List.length_append, List.length_take]
      omega
    · have : cat L (k + 1) = cat L k := by unfold cat; rw [List.take_of_length_le (by omega), List.take_of_length_le (by omega)]
      rw [this]
      omega

set_option maxHeartbeats 1000000 in
theorem walkCrcPieces (A : Option Addr) (n c : Nat) (L : List Sl) (w : World) (hn : n ≤ c) (hc : c ≤ maxLen) (hL : L.length = n) (hrow : Row w A (L.map Sl.v)) (hok : ∀ a ∈ L, Sl.ok w a) :
    Calls Try.prog 4 #[.slice A n c] w fun e w' => e = .returned (.bool true) ∧ Below w.heap.size w w' := by
  have HL := hid hL
  have HR := hid hrow
  have HK := hid hok
  have hmx : n ≤ 9223372036854775807 := Nat.le_trans hn (by unfold maxLen at hc; omega)
  clear hL hrow hok hc
  go_enter Try.func4, Try.ntmps4
  go_wp2
  go_loopw [3, 4, 5] (fun s v i wr => ∃ k : Nat, k ≤ n ∧ k ≤ 20 ∧ i = .int .i64 k ∧ s = .int .u32 (sumL (cat L k) : Nat) ∧ (∃ A' c', v = .slice A' (cat L k).length c' ∧ wr.ownsRow w.heap.size 5 1 (.slice A' (cat L k).length c') (cat L k).length ((cat L k).map B8)) ∧ Below w.heap.size w wr)
    (fun s v i wr => 20 - (intOf i).toNat)
  case atStart => exact ⟨0, by omega, by omega, rfl, by rw [show sumL (cat L 0) = 0 from nil_sum]; rfl, ⟨none, 0, rfl, World.ownsRow_nil _ _ _ _⟩, Below.refl _ _⟩
  case round =>
    obtain ⟨k, hk, hk20, rfl, rfl, ⟨A', c', rfl, hown⟩, hb⟩ := hrel
    by_cases hlt : k < n ∧ k < 20
    · obtain ⟨hlt, hlt2⟩ := hlt
      have hkL : k < L.length := by rw [HL.out]; exact hlt
      obtain ⟨b, off, rfl, hcell⟩ := HR.out (by intro e; have := congrArg List.length e; simp at this; subst this; simp at hkL)
      have hck := hcell k _ (by rw [List.getElem?_map, List.getElem?_eq_getElem hkL]; rfl)
      obtain ⟨hs1, hs2, hs3⟩ := HK.out L[k] (List.getElem_mem hkL)
      have hst := hid (cat_succ L k hkL)
      have hcl := cat_len L k
      clear hcell
      generalize L[k] = s at *
      obtain ⟨sA, sn, sc, sl⟩ := s
      simp only [Sl.v] at hck hs1 hs2 hs3 hst
      have hck2 := (hb.cell (p := ⟨b, off + k, none⟩) (World.block_lt_of_cell? w _ hck)).trans hck
      have ho := hs3.below hb
      have m1 := min_len ho
      have hmn : min sn 500 ≤ 500 := Nat.min_le_right _ _
      clear hck hs3
      go_wp2_with (first
        | (go_at_call 7; with_reducible refine (few_any sA sn sc sl _ ho hs1).mono ?_; rintro e w' ⟨rfl, rfl⟩)
        | (go_at_call 11; with_reducible refine (more_any (sumL (cat L k)) sA (min sn 500) sc (sl.take 500) _ (sumL_lt _) m1 (by omega)).mono ?_; rintro e w5 ⟨rfl, hx⟩; rw [more_sum]; have hck3 := cells_keep hx hck2; have ho5 := ho.below hx; have m5 := m1.below hx; have hown5 := own_below hown hx; have hb5 := hb.trans (hx.mono hb.size); clear ho m1 hck2 hown hb hx)
        | (go_at_call 7; with_reducible refine (few_any sA sn sc sl _ ho5 hs1).mono ?_; rintro e w' ⟨rfl, rfl⟩)
        | (at_builtin; refine wpList_append_row _ rfl (.tmp 23) (.tmp 28) bytesT rfl w.heap.size (.slice A' (cat L k).length c') (cat L k).length ((cat L k).map B8) rfl hown5 sA (min sn 500) sc ((sl.take 500).map B8) rfl m5.cells_len m5.2 (one_B8 _) (by simp only [maxLen]; omega) (by omega) hb5.size ?_
           intro A2 c2 w6 hown6 hgr6 _
           have hb6 := hb5.grown hgr6 hb5.size (fun k hk => (hown5.lt k hk).1)
           have hlen : (cat L k).length + min sn 500 = (cat L (k + 1)).length := by rw [hst.out, List.length_append, m5.len]
           rw [← List.map_append, ← hst.out, hlen] at hown6
           rw [hlen]
           clear hgr6 hown5 hlen))
      rw [← hst.out]
      go_roundw
      case rel => exact ⟨k + 1, by omega, by omega, by go_num, rfl, ⟨A2, c2, rfl, hown6⟩, hb6⟩
      case measure => simp [intOf]; omega
    · have hcl := cat_len L k
      have hM : Oct wr A' (cat L k).length (cat L k) := ⟨rfl, Row.of_own hown⟩
      clear hown
      by_cases hkn : k < n
      · have hk20' : ¬ k < 20 := by omega
        clear hlt
        go_wp2_with (first
          | (go_at_call 9; with_reducible refine (sum_any A' (cat L k).length c' (cat L k) _ hM (by omega)).mono ?_; rintro e w5 ⟨rfl, hx⟩; have hb5 := hb.trans (hx.mono hb.size))
          | (go_at_call 13; refine (awake_any _).mono ?_; rintro e w6 ⟨rfl, hx6⟩; have hb6 := hb5.trans (hx6.mono hb5.size)))
        go_ret
        exact ⟨rfl, hb6⟩
      · clear hlt
        go_wp2_with (first
          | (go_at_call 9; with_reducible refine (sum_any A' (cat L k).length c' (cat L k) _ hM (by omega)).mono ?_; rintro e w5 ⟨rfl, hx⟩; have hb5 := hb.trans (hx.mono hb.size))
          | (go_at_call 13; refine (awake_any _).mono ?_; rintro e w6 ⟨rfl, hx6⟩; have hb6 := hb5.trans (hx6.mono hb5.size)))
        go_ret
        exact ⟨rfl, hb6⟩
end Go.Proofs.Ytccibhgdpfmjlaa
