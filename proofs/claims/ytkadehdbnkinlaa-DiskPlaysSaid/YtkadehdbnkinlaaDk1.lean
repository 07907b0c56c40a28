/-
  A disk in memory; a sector of one octet. A part of the proof: see the head of the text that ends in 'Law'.
-/
import Derived.Test.YtkadehdbnkinlaaChecked
import Derived.Test.YtkadehdbnkinlaaProg
import Derived.Test.YtkadehdbnkinlaaCarry
import Derived.Test.YtkadehdbnkinlaaLib2
import Derived.Test.YtkadehdbnkinlaaSlim
import Derived.Test.YtkadehdbnkinlaaExact
namespace Go.Proofs.Ytkadehdbnkinlaa
open Go.RowKit
set_option linter.unusedVariables false
attribute [local go_sem] Oper.semAt_some

theorem u8S : SliceT Try.prog 31 5 (.int .u8 0) 1 1 := ⟨Try.underlying31, by kernel_rfl, rfl, by decide⟩
/-- What has been laid of a sector of one octet. -/
def allL (c : UInt8) (k : Nat) : List UInt8 := List.replicate k c ++ List.replicate (128 - k) 0
theorem allL_set (c : UInt8) (k : Nat) (hk : k < 128) : ((allL c k).map B8).set k (B8 c) = (allL c (k + 1)).map B8 := by
  unfold allL
  rw [← List.map_set]
  congr 1
  rw [List.set_append_right _ _ (by simp), List.length_replicate, Nat.sub_self, show 128 - k = (128 - (k + 1)) + 1 by omega, List.replicate_succ, List.set_cons_zero, List.replicate_succ', List.append_assoc]
  rfl
theorem allL_end (c : UInt8) : allL c 128 = List.replicate 128 c := by unfold allL; simp
set_option maxHeartbeats 1000000 in
theorem all_any (c : UInt8) (w : World) :
    Calls Try.prog 9 #[.int .u8 c.toNat] w fun e w' => e = .returned (.slice (some ⟨w.heap.size, 0, none⟩) 128 128) ∧ OwnC w' w.heap.size 5 ((List.replicate 128 c).map B8) ∧ Below w.heap.size w w' := by
  obtain ⟨i0, hi0, hz0, hz1, hz2⟩ := info_parts u8S.info
  have Hz1 := hid hz1
  have Hz2 := hid hz2
  have Hi0 := hid hi0
  have Hz0 := hid hz0
  clear hz1 hz2 hi0 hz0
  go_enter Try.func9, Try.ntmps9
  have hcl := c.toNat_lt
  have hz0 : (allL c 0).map B8 = List.replicate 128 (Value.int .u8 0) := by unfold allL; simp [B8]
  have HZ0 := hid hz0
  clear hz0
  go_wp2_with (
    refine wpList_make_full _ rfl (.const (.int .i64 128)) (.const (.int .i64 128)) 31 rfl w.heap.size 5 i0 (.int .u8 0) 1 Try.underlying31 Hi0.out Hz0.out Hz1.out .i64 .i64 128 128 128 rfl rfl rfl rfl (by rw [Hz2.out]; omega) (by unfold maxLen; omega) (Nat.le_refl _) ?_
    intro w1 ho1 hg1
    have hb1 := (Below.refl w.heap.size w).grown hg1 (Nat.le_refl _) (fun k hk => by cases hk)
    rw [made_one _ rfl 128] at ho1
    have hown : OwnC w1 w.heap.size 5 ((allL c 0).map B8) := by
      obtain ⟨g, e, _, h⟩ := own_row ho1 (by omega)
      injection e with e
      injection e with e
      subst e
      rw [HZ0.out]
      exact h
    have HB1 := hid hb1
    have HOW := hid hown
    clear hg1 ho1 hown hb1)
  go_loopw [4] (fun i wr => ∃ k : Nat, k ≤ 128 ∧ i = .int .i64 (k : Int) ∧ Hid (OwnC wr w.heap.size 5 ((allL c k).map B8) ∧ Below w.heap.size w wr)) (fun i wr => 128 - (intOf i).toNat)
  case atStart => exact ⟨0, by omega, rfl, hid ⟨HOW.out, HB1.out⟩⟩
  case round =>
    obtain ⟨k, hk, rfl, hI⟩ := hrel
    by_cases hlt : k < 128
    · have d1 : decide ((k : Int) < 128) = true := by simp; omega
      have d1' : decide (k < 128) = true := by simpa using hlt
      have hk0 : (0 : Int) ≤ (k : Int) := by omega
      have hk1 : (k : Int) < 128 := by omega
      have hlen : (allL c k).length = 128 := by unfold allL; simp; omega
      obtain ⟨v, hv⟩ : ∃ v, ((allL c k).map B8)[k]? = some v := ⟨_, List.getElem?_eq_getElem (by rw [List.length_map, hlen]; exact hlt)⟩
      have x0 := hI.out.1.cell hv
      have x1 := hI.out.1.frozen k
      have HN := hid (show OwnC (wr.setCell ⟨w.heap.size, k, none⟩ (B8 c)) w.heap.size 5 ((allL c (k + 1)).map B8) by rw [← allL_set c k hlt]; exact hI.out.1.set k _)
      have HB := hid (hI.out.2.setCell (p := ⟨w.heap.size, k, none⟩) (Nat.le_refl _) (B8 c))
      clear hv hlen
      go_wp2
      go_roundw
      case rel => exact ⟨k + 1, by omega, by go_num, hid ⟨HN.out, HB.out⟩⟩
      case measure => simp [intOf]; omega
    · have d1 : decide ((k : Int) < 128) = false := by simp; omega
      have d1' : decide (k < 128) = false := by simpa using hlt
      have HF := hid (show OwnC wr w.heap.size 5 ((List.replicate 128 c).map B8) by
        have := hI.out.1
        rw [show k = 128 by omega, allL_end] at this
        exact this)
      go_wp2
      go_ret
      exact ⟨rfl, HF.out, hI.out.2⟩
end Go.Proofs.Ytkadehdbnkinlaa
