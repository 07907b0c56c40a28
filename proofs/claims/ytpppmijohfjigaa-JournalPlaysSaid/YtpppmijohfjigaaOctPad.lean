/-
  The walk of octet.Pad. A part of the proof: see the head of the text that ends in 'Law'.
-/
import Derived.Test.YtpppmijohfjigaaOctText
namespace Go.Proofs.Ytpppmijohfjigaa
open Go.RowKit
set_option linter.unusedVariables false
set_option maxRecDepth 100000

theorem own_block {w : World} {base : Nat} {e : TypeId} {g n : Nat} {xs : List Value} (h : w.ownsRow base e 1 (.slice (some ⟨g, 0, none⟩) n n) n xs) : w.heap[g]? = some (.cells xs.toArray e (0, 0)) ∧ base ≤ g ∧ xs.length = n := by
  have hx : xs.length = n := by simpa using h.1
  rcases h.2 with ⟨hv, _⟩ | ⟨g', cap, cur, hv, hb, hh, _, _, hs, ht⟩
  · simp at hv
  · simp only [Value.slice.injEq, Option.some.injEq, Addr.mk.injEq, and_true, true_and] at hv
    obtain ⟨rfl, rfl⟩ := hv
    rw [List.take_of_length_le (by rw [Array.length_toList, hs]; exact Nat.le_refl _)] at ht
    subst ht
    exact ⟨by simpa using hh, hb, hx⟩

/-- n noughts. -/
def Zs (n : Nat) : List Value := List.replicate n (.int .u8 0)
theorem Zs_length (n : Nat) : (Zs n).length = n := List.length_replicate
theorem zeros_made (n : Nat) : (madeCells (Value.int IntKind.u8 0).cells (n * 1)).toList = Zs n := by
  rw [Nat.mul_one]
  exact toList_madeCells_one _ n
theorem splice_zeros (l : List UInt8) (n : Nat) (h : l.length ≤ n) : (splice (Zs n) 0 (l.map B8)).toArray = ((l ++ List.replicate (n - l.length) 0).map B8).toArray := by
  unfold splice Zs
  simp [B8]
theorem copy_from {w : World} {A B : Option Addr} {m g : Nat} {l : List UInt8} (hB : B = some ⟨g, 0, none⟩) (h : Oct w A m l) : 0 < (l.map B8).length → B = some ⟨g, 0, none⟩ ∧ ∃ ad, A = some ad ∧ ∀ j v, (l.map B8)[j]? = some v → w.cell? (ad.add j) = some v := by
  intro h0
  obtain ⟨b, off, rfl, hc⟩ := h.2 (by intro e; rw [e] at h0; simp at h0)
  exact ⟨hB, _, rfl, fun j v hv => by rw [Addr.add_mid]; exact hc j v hv⟩

set_option maxHeartbeats 400000 in
theorem pad_bad (A : Option Addr) (m c : Nat) (n : Int) (w : World) (h : n < 0 ∨ 1048576 < n) (hc : m ≤ c) :
    Calls Try.prog 38 #[.slice A m c, .int .i64 n] w fun e w' => e = .returned (.tuple #[.slice none 0 0, .int .i64 1]) ∧ w = w' := by
  by_cases h1 : n < 0
  · go_enter Try.func38, Try.ntmps38
    go_wp2
    go_ret2
    exact ⟨rfl, rfl⟩
  · have h2 : 1048576 < n := by omega
    have hd : decide (1048576 < n) = true := by simpa using h2
    go_enter Try.func38, Try.ntmps38
    go_wp2
    go_ret2
    exact ⟨rfl, rfl⟩

set_option maxHeartbeats 400000 in
theorem pad_full (A : Option Addr) (m c n : Nat) (w : World) (h : n ≤ 1048576) (hm : n < m) :
    Calls Try.prog 38 #[.slice A m c, .int .i64 n] w fun e w' => e = .returned (.tuple #[.slice none 0 0, .int .i64 5]) ∧ w = w' := by
  have hd : decide ((1048576 : Int) < n) = false := by simp; omega
  have hd2 : decide (n < m) = true := by simpa using hm
  go_enter Try.func38, Try.ntmps38
  go_wp2
  go_ret2
  exact ⟨rfl, rfl⟩

set_option maxHeartbeats 400000 in
theorem pad_at (A : Option Addr) (m c n : Nat) (l : List UInt8) (w : World) (ho : Oct w A m l) (h : n ≤ 1048576) (hm : m ≤ n) :
    Calls Try.prog 38 #[.slice A m c, .int .i64 n] w fun e w' => ∃ g, e = .returned (.tuple #[.slice (some ⟨g, 0, none⟩) n n, .int .i64 0]) ∧ Oct w' (some ⟨g, 0, none⟩) n (l ++ List.replicate (n - m) 0) ∧ Below w.heap.size w w' := by
  have hd : decide ((1048576 : Int) < n) = false := by simp; omega
  have hd2 : decide (n < m) = false := by simp; omega
  obtain ⟨i0, hi0, hz0, hz1, hz2⟩ := info_parts bytesT.info
  have hsz : (Try.prog.info? 5).map (·.size) = some 1 := by rw [hi0]; simp [hz1]
  have Hsz := hid hsz
  have Hz1 := hid hz1
  have Hz2 := hid hz2
  have Hi0 := hid hi0
  have Hz0 := hid hz0
  clear hz1 hz2 hi0 hz0 hsz
  go_enter Try.func38, Try.ntmps38
  go_wp2_with (first
    | (refine wpList_make_full _ rfl (.tmp 19) (.tmp 19) 24 rfl w.heap.size 5 i0 (.int .u8 0) 1 Try.underlying24 Hi0.out Hz0.out Hz1.out .i64 .i64 n n n rfl rfl rfl rfl (by rw [Hz2.out]; omega) (by unfold maxLen; omega) (Nat.le_refl _) ?_
       intro w1 ho1 hg1
       have hb1 := (Below.refl w.heap.size w).grown hg1 (Nat.le_refl _) (fun k hk => by cases hk)
       obtain ⟨hblk, _, _⟩ := own_block ho1
       rw [zeros_made] at hblk
       have HB := hid hblk
       have ho1' := ho.below hb1
       have hps := copy_from (B := (some ⟨w.heap.size, 0, none⟩)) rfl ho1'
       clear hg1 ho1 hblk)
    | (with_reducible refine wpList_copy_splice rfl (.tmp 21) (.tmp 22) 24 24 rfl 5 Try.underlying24 Hsz.out (some ⟨w.heap.size, 0, none⟩) A n n m c rfl rfl w.heap.size 0 (Zs n) 5 HB.out (l.map B8) (by rw [List.length_map, ho.len]; exact (Nat.min_eq_left hm).symm) hps (by rw [List.length_map, ho.len, Zs_length]; omega) (one_B8 _) w.heap.size w hb1 (Nat.le_refl _) ?_
       intro w2 hg2 hb2))
  go_ret2
  refine ⟨_, rfl, ?_, hb2⟩
  have hr := hg2.out
  rw [splice_zeros l n (by rw [ho.len]; exact hm), ho.len] at hr
  have := Oct.of_block _ hr rfl
  rw [List.length_append, List.length_replicate, ho.len, show m + (n - m) = n by omega] at this
  exact this
theorem pad_any (A : Option Addr) (m c n : Nat) (l : List UInt8) (w : World) (ho : Oct w A m l) (h : n ≤ 1048576) (hm : m ≤ n) :
    Calls Try.prog 38 #[.slice A m c, .int .i64 n] w fun e w' => ∃ A', e = .returned (.tuple #[.slice A' n n, .int .i64 0]) ∧ Oct w' A' n (l ++ List.replicate (n - m) 0) ∧ Below w.heap.size w w' :=
  (pad_at A m c n l w ho h hm).mono fun e w' ⟨g, he, ho, hb⟩ => ⟨_, he, ho, hb⟩
set_option maxHeartbeats 400000 in
theorem pad_own (A : Option Addr) (m c n : Nat) (l : List UInt8) (w : World) (ho : Oct w A m l) (h : n ≤ 1048576) (hm : m ≤ n) :
    Calls Try.prog 38 #[.slice A m c, .int .i64 n] w fun e w' => ∃ g, e = .returned (.tuple #[.slice (some ⟨g, 0, none⟩) n n, .int .i64 0]) ∧ w'.heap[g]? = some (.cells ((l ++ List.replicate (n - m) 0).map B8).toArray 5 (0, 0)) ∧ w.heap.size ≤ g ∧ Below w.heap.size w w' := by
  have hd : decide ((1048576 : Int) < n) = false := by simp; omega
  have hd2 : decide (n < m) = false := by simp; omega
  obtain ⟨i0, hi0, hz0, hz1, hz2⟩ := info_parts bytesT.info
  have hsz : (Try.prog.info? 5).map (·.size) = some 1 := by rw [hi0]; simp [hz1]
  have Hsz := hid hsz
  have Hz1 := hid hz1
  have Hz2 := hid hz2
  have Hi0 := hid hi0
  have Hz0 := hid hz0
  clear hz1 hz2 hi0 hz0 hsz
  go_enter Try.func38, Try.ntmps38
  go_wp2_with (first
    | (refine wpList_make_full _ rfl (.tmp 19) (.tmp 19) 24 rfl w.heap.size 5 i0 (.int .u8 0) 1 Try.underlying24 Hi0.out Hz0.out Hz1.out .i64 .i64 n n n rfl rfl rfl rfl (by rw [Hz2.out]; omega) (by unfold maxLen; omega) (Nat.le_refl _) ?_
       intro w1 ho1 hg1
       have hb1 := (Below.refl w.heap.size w).grown hg1 (Nat.le_refl _) (fun k hk => by cases hk)
       obtain ⟨hblk, _, _⟩ := own_block ho1
       rw [zeros_made] at hblk
       have HB := hid hblk
       have ho1' := ho.below hb1
       have hps := copy_from (B := (some ⟨w.heap.size, 0, none⟩)) rfl ho1'
       clear hg1 ho1 hblk)
    | (with_reducible refine wpList_copy_splice rfl (.tmp 21) (.tmp 22) 24 24 rfl 5 Try.underlying24 Hsz.out (some ⟨w.heap.size, 0, none⟩) A n n m c rfl rfl w.heap.size 0 (Zs n) 5 HB.out (l.map B8) (by rw [List.length_map, ho.len]; exact (Nat.min_eq_left hm).symm) hps (by rw [List.length_map, ho.len, Zs_length]; omega) (one_B8 _) w.heap.size w hb1 (Nat.le_refl _) ?_
       intro w2 hg2 hb2))
  go_ret2
  refine ⟨_, rfl, ?_, Nat.le_refl _, hb2⟩
  have hr := hg2.out
  rw [splice_zeros l n (by rw [ho.len]; exact hm), ho.len, List.map_append, List.map_replicate] at hr
  first | exact hr | simpa using hr
end Go.Proofs.Ytpppmijohfjigaa
