/-
  The reader's Raw, walked. A part of the proof: see the head of the text that ends in 'Law'.
-/
import Derived.Test.YtnloooakfhjggaaOctRd2
namespace Go.Proofs.Ytnloooakfhjggaa
open Go.RowKit
set_option linter.unusedVariables false

theorem Oct.cut {w : World} {ad : Addr} {n : Nat} {l : List UInt8} (h : Oct w (some ad) n l) (a k : Nat) (hk : a + k ≤ n) : Oct w (some (ad.add a)) k (cutL l a k) := by
  have hl := h.len
  refine ⟨cutL_length l a k (by omega), fun hne => ?_⟩
  obtain ⟨b, off, hA, hc⟩ := h.2 (by intro e; simp at e; subst e; simp [cutL] at hne)
  injection hA with hA
  subst hA
  refine ⟨b, off + a, by rw [Addr.add_mid], fun j v hv => ?_⟩
  have := hc (a + j) v (by
    rw [List.getElem?_map] at hv ⊢
    unfold cutL at hv
    rw [List.getElem?_take] at hv
    split at hv
    · rw [List.getElem?_drop] at hv
      exact hv
    · simp at hv)
  rw [Nat.add_assoc]
  exact this

set_option maxHeartbeats 1000000 in
theorem raw_some (w : World) (g : Nat) (ad : Addr) (n c : Nat) (l : List UInt8) (a wh k : Nat) (hr : Rd w g (some ad) n c l a 0 wh) (hn : n ≤ 2147483648) (hk : a + k ≤ n) :
    Calls Try.prog 17 #[.pointer (some ⟨g, 0, none⟩), .int .i64 k] w fun e w' => ∃ A' c', e = .returned (.slice A' k c') ∧ Oct w' A' k (cutL l a k) ∧ Rd w' g (some ad) n c l (a + k) 0 wh ∧ w.grownBy w' (some g) := by
  obtain ⟨k0, k1, k2, k3, kf⟩ := hr.cells
  have f1 := kf 1
  have HR := hid hr
  have hnc := hr.2.2
  have hd : decide ((n : Int) - a < k) = false := by simp; omega
  clear hr kf
  go_enter Try.func17, Try.ntmps17
  go_wp2
  go_quiet (fail)
  go_wp2
  generalize hW : (w.drewN nq).setCell { block := g, off := 1 } (Value.int IntKind.i64 ((a : Int) + k)) = W
  have HRW : Hid (Rd W g (some ad) n c l (a + k) 0 wh ∧ w.grownBy W (some g) ∧ Oct W (if c = a then some ad else some (ad.add a)) k (cutL l a k)) := by
    subst hW
    have h1 := (HR.out.drewN nq).at1 (a + k)
    rw [Int.natCast_add] at h1
    refine ⟨h1, grown_q (grown_set _), ?_⟩
    split
    · have h2 : k = 0 := by have := h1.2.2; omega
      subst h2
      have h3 : cutL l a 0 = [] := by simp [cutL]
      rw [h3]
      exact Oct.nil _ _
    · exact h1.2.1.cut a k hk
  clear hW HR k0 k1 k2 k3 f1
  obtain ⟨k0, k1, _, _, _⟩ := HRW.out.1.cells
  rw [Int.natCast_add] at k1
  have hlo : (a : Int) + k - k = a := by omega
  have hb1 : 0 ≤ (a : Int) + k := by omega
  have hb2 : (a : Int) + k ≤ c := by omega
  have hb3 : (a : Int) ≤ max ((a : Int) + k) 0 := by omega
  have hb7 : (a : Int) ≤ (a : Int) + k := by omega
  have hb4 : IntKind.i64.wrap (a : Int) = a := by rw [IntKind.wrap_i64]; omega
  have hb5 : ((a : Int) + k).toNat - a = k := by omega
  have hb6 : a + k - a = k := by omega
  generalize hAd : (if c = a then some ad else some (ad.add a)) = Ad at HRW
  go_region_law (
    (refine step_append_row _ rfl (.const (.slice none 0 0)) (.tmp 61) bytesT rfl W.heap.size (.slice none 0 0) 0 [] rfl (World.ownsRow_nil _ _ _ _) Ad k (c - a) ((cutL l a k).map B8) rfl HRW.out.2.2.cells_len HRW.out.2.2.2 (one_B8 _) (by simp only [maxLen]; omega) (by omega) (Nat.le_refl _) ?_
     intro A1 c1 w3 hown1 hgr1 hat1
     have hb3 : Below W.heap.size W w3 := (Below.refl W.heap.size W).drew.grown hgr1 (Nat.le_refl _) (fun k hk => by simp [Value.ownBlock] at hk)
     simp only [Nat.zero_add, List.nil_append] at hown1 hat1
     clear hgr1))
  all_goals
    go_wp2
    go_ret
    have hb4 : w.grownBy w3 (some g) := grown_below HRW.out.2.1 hb3
    exact ⟨A1, c1, rfl, ⟨HRW.out.2.2.len, Row.of_own hown1⟩, HRW.out.1.below hb3, hb4⟩
end Go.Proofs.Ytnloooakfhjggaa
