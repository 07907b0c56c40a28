/-
  A disk in memory; a sector of one octet; A disk in memory: what it is there, and its small words; A disk's small words: spending, the budget, the power; A disk of noughts; a sector's octets; A sector's octets; what is read. A part of the proof: see the head of the text that ends in 'Law'.
-/
import Derived.Test.YtpppmijohfjigaaChecked
import Derived.Test.YtpppmijohfjigaaProg
import Derived.Test.YtpppmijohfjigaaCarry
import Derived.Test.YtpppmijohfjigaaLib2
import Derived.Test.YtpppmijohfjigaaSlim
import Derived.Test.YtpppmijohfjigaaMem
import Derived.Test.YtpppmijohfjigaaOctText
namespace Go.Proofs.Ytpppmijohfjigaa
section
open Go.RowKit
set_option linter.unusedVariables false
attribute [local go_sem] Oper.semAt_some
theorem u8S : SliceT Try.prog 24 5 (.int .u8 0) 1 1 := ⟨Try.underlying24, by kernel_rfl, rfl, by decide⟩
/-- What has been laid of a sector of one octet. -/
def allL (c : UInt8) (k : Nat) : List UInt8 := List.replicate k c ++ List.replicate (128 - k) 0
theorem allL_set (c : UInt8) (k : Nat) (hk : k < 128) : ((allL c k).map B8).set k (B8 c) = (allL c (k + 1)).map B8 := by
  unfold allL
  rw [← List.map_set]
  congr 1
  rw [List.set_append_right _ _ (by simp), List.length_replicate, Nat.sub_self, show 128 - k = (128 - (k + 1)) + 1 by omega, List.replicate_succ, List.set_cons_zero, List.replicate_succ', List.append_assoc]
  rfl
theorem allL_end (c : UInt8) : allL c 128 = List.replicate 128 c := by unfold allL; simp
set_option maxHeartbeats 1000000 in
theorem all_any (c : UInt8) (w : World) :
    Calls Try.prog 20 #[.int .u8 c.toNat] w fun e w' => e = .returned (.slice (some ⟨w.heap.size, 0, none⟩) 128 128) ∧ OwnC w' w.heap.size 5 ((List.replicate 128 c).map B8) ∧ Below w.heap.size w w' := by
  obtain ⟨i0, hi0, hz0, hz1, hz2⟩ := info_parts u8S.info
  have Hz1 := hid hz1
  have Hz2 := hid hz2
  have Hi0 := hid hi0
  have Hz0 := hid hz0
  clear hz1 hz2 hi0 hz0
  go_enter Try.func20, Try.ntmps20
  have hcl := c.toNat_lt
  have hz0 : (allL c 0).map B8 = List.replicate 128 (Value.int .u8 0) := by unfold allL; simp [B8]
  have HZ0 := hid hz0
  clear hz0
  go_wp2_with (
    refine wpList_make_full _ rfl (.const (.int .i64 128)) (.const (.int .i64 128)) 24 rfl w.heap.size 5 i0 (.int .u8 0) 1 Try.underlying24 Hi0.out Hz0.out Hz1.out .i64 .i64 128 128 128 rfl rfl rfl rfl (by rw [Hz2.out]; omega) (by unfold maxLen; omega) (Nat.le_refl _) ?_
    intro w1 ho1 hg1
    have hb1 := (Below.refl w.heap.size w).grown hg1 (Nat.le_refl _) (fun k hk => by cases hk)
    rw [made_one _ rfl 128] at ho1
    have hown : OwnC w1 w.heap.size 5 ((allL c 0).map B8) := by
      obtain ⟨g, e, _, h⟩ := own_row ho1 (by omega)
      injection e with e
      injection e with e
      subst e
      rw [HZ0.out]
      exact h
    have HB1 := hid hb1
    have HOW := hid hown
    clear hg1 ho1 hown hb1)
  go_loopw [4] (fun i wr => ∃ k : Nat, k ≤ 128 ∧ i = .int .i64 (k : Int) ∧ Hid (OwnC wr w.heap.size 5 ((allL c k).map B8) ∧ Below w.heap.size w wr)) (fun i wr => 128 - (intOf i).toNat)
  case atStart => exact ⟨0, by omega, rfl, hid ⟨HOW.out, HB1.out⟩⟩
  case round =>
    obtain ⟨k, hk, rfl, hI⟩ := hrel
    by_cases hlt : k < 128
    · have d1 : decide ((k : Int) < 128) = true := by simp; omega
      have d1' : decide (k < 128) = true := by simpa using hlt
      have hk0 : (0 : Int) ≤ (k : Int) := by omega
      have hk1 : (k : Int) < 128 := by omega
      have hlen : (allL c k).length = 128 := by unfold allL; simp; omega
      obtain ⟨v, hv⟩ : ∃ v, ((allL c k).map B8)[k]? = some v := ⟨_, List.getElem?_eq_getElem (by rw [List.length_map, hlen]; exact hlt)⟩
      have x0 := hI.out.1.cell hv
      have x1 := hI.out.1.frozen k
      have HN := hid (show OwnC (wr.setCell ⟨w.heap.size, k, none⟩ (B8 c)) w.heap.size 5 ((allL c (k + 1)).map B8) by rw [← allL_set c k hlt]; exact hI.out.1.set k _)
      have HB := hid (hI.out.2.setCell (p := ⟨w.heap.size, k, none⟩) (Nat.le_refl _) (B8 c))
      clear hv hlen
      go_wp2
      go_roundw
      case rel => exact ⟨k + 1, by omega, by go_num, hid ⟨HN.out, HB.out⟩⟩
      case measure => simp [intOf]; omega
    · have d1 : decide ((k : Int) < 128) = false := by simp; omega
      have d1' : decide (k < 128) = false := by simpa using hlt
      have HF := hid (show OwnC wr w.heap.size 5 ((List.replicate 128 c).map B8) by
        have := hI.out.1
        rw [show k = 128 by omega, allL_end] at this
        exact this)
      go_wp2
      go_ret
      exact ⟨rfl, HF.out, hI.out.2⟩
end
section
open Go.RowKit
set_option linter.unusedVariables false
attribute [local go_sem] Oper.semAt_some
/-- A disk: what its sectors have, what waits, the budget, whether the power is off. -/
structure Dsk where
  has : List (List UInt8)
  waits : List (Int × List UInt8)
  bud : Int
  off : Bool
  ys : List Value
  cp : Nat
def secC (l : List (List UInt8)) : List Value := l.flatMap (fun s => s.map B8)
def isC (p : Int × List UInt8) : List Value := .int .i64 p.1 :: p.2.map B8
def waitC (l : List (Int × List UInt8)) : List Value := l.flatMap isC
/-- The disk at d in W: its sectors in the block hb, what waits in the slice V. -/
structure DkAt (W : World) (b0 d hb : Nat) (V : Value) (D : Dsk) : Prop where
  d0 : b0 ≤ d
  h0 : b0 ≤ hb
  cells : OwnE W d 94 [.slice (some ⟨hb, 0, none⟩) D.has.length D.cp, V, .int .i64 D.bud, .bool D.off]
  sect : OwnE W hb 99 (secC D.has ++ D.ys)
  wait : W.ownsRow b0 101 129 V D.waits.length (waitC D.waits)
  len : ∀ s ∈ D.has, s.length = 128
  wlen : ∀ p ∈ D.waits, p.2.length = 128 ∧ 0 ≤ p.1 ∧ p.1 < D.has.length
  nb : D.has.length ≤ 2048
  bd : -1 ≤ D.bud ∧ D.bud ≤ 9223372036854775807
/-- The blocks that are a disk's. -/
def Mine (d hb : Nat) (V : Value) (g : Nat) : Prop := g = d ∨ g = hb ∨ V.ownBlock = some g
theorem DkAt.dh {W : World} {b0 d hb : Nat} {V : Value} {D : Dsk} (h : DkAt W b0 d hb V D) : d ≠ hb := h.cells.type_ne h.sect (by decide)
theorem DkAt.dv {W : World} {b0 d hb : Nat} {V : Value} {D : Dsk} (h : DkAt W b0 d hb V D) : V.ownBlock ≠ some d := h.cells.row_ne h.wait (by decide)
theorem DkAt.hv {W : World} {b0 d hb : Nat} {V : Value} {D : Dsk} (h : DkAt W b0 d hb V D) : V.ownBlock ≠ some hb := h.sect.row_ne h.wait (by decide)
/-- A cell of the disk's own block is written: the budget, or whether the power is off. -/
theorem DkAt.bud_set {W : World} {b0 d hb : Nat} {V : Value} {D : Dsk} (h : DkAt W b0 d hb V D) (k : Int) (hk : -1 ≤ k ∧ k ≤ 9223372036854775807) : DkAt (W.setCell ⟨d, 2, none⟩ (.int .i64 k)) b0 d hb V { D with bud := k } :=
  ⟨h.d0, h.h0, h.cells.set 2 _, h.sect.far h.dh.symm _, row_far h.wait h.dv _, h.len, h.wlen, h.nb, hk⟩
theorem DkAt.off_set {W : World} {b0 d hb : Nat} {V : Value} {D : Dsk} (h : DkAt W b0 d hb V D) (k : Bool) : DkAt (W.setCell ⟨d, 3, none⟩ (.bool k)) b0 d hb V { D with off := k } :=
  ⟨h.d0, h.h0, h.cells.set 3 _, h.sect.far h.dh.symm _, row_far h.wait h.dv _, h.len, h.wlen, h.nb, h.bd⟩
theorem DkAt.wait_nil {W : World} {b0 d hb : Nat} {V : Value} {D : Dsk} (h : DkAt W b0 d hb V D) : DkAt (W.setCell ⟨d, 1, none⟩ (.slice none 0 0)) b0 d hb (.slice none 0 0) { D with waits := [] } :=
  ⟨h.d0, h.h0, h.cells.set 1 _, h.sect.far h.dh.symm _, World.ownsRow_nil _ _ _ _, h.len, (fun p hp => by cases hp), h.nb, h.bd⟩
theorem DkAt.below {W W' : World} {b0 d hb : Nat} {V : Value} {D : Dsk} (h : DkAt W b0 d hb V D) (hb' : Below W.heap.size W W') : DkAt W' b0 d hb V D :=
  ⟨h.d0, h.h0, h.cells.below hb', h.sect.below hb', by
    refine ⟨h.wait.1, ?_⟩
    rcases h.wait.2 with hq | ⟨k, cap, cur, e, h1, h2, h3⟩
    · exact .inl hq
    · exact .inr ⟨k, cap, cur, e, h1, (hb'.block k (lt_of_heap h2)).trans h2, h3⟩, h.len, h.wlen, h.nb, h.bd⟩
theorem Mine.lt {W : World} {b0 d hb : Nat} {V : Value} {D : Dsk} (h : DkAt W b0 d hb V D) : ∀ g, Mine d hb V g → b0 ≤ g ∧ g < W.heap.size := by
  rintro g (rfl | rfl | hg)
  · exact ⟨h.d0, h.cells.lt⟩
  · exact ⟨h.h0, h.sect.lt⟩
  · refine ⟨own_base h.wait g hg, ?_⟩
    rcases h.wait.2 with ⟨e, _⟩ | ⟨k, cap, cur, e, _, h2, _⟩
    · rw [e] at hg; simp [Value.ownBlock] at hg
    · rw [e] at hg
      obtain rfl : k = g := by simpa [Value.ownBlock] using hg
      exact lt_of_heap h2

theorem is_any {W : World} {b0 d hb : Nat} {V : Value} {D : Dsk} (h : DkAt W b0 d hb V D) (i : Int) :
    Calls Try.prog 50 #[.pointer (some ⟨d, 0, none⟩), .int .i64 i] W fun e w' => e = .returned (.bool (decide (0 ≤ i ∧ i < D.has.length))) ∧ W = w' := by
  have x0 := h.cells.cell (j := 0) rfl
  obtain ⟨n, hn⟩ : ∃ n, D.has.length = n := ⟨_, rfl⟩
  rw [hn] at x0 ⊢
  clear h hn
  by_cases h0 : 0 ≤ i
  · have d0 : decide (0 ≤ i) = true := by simpa using h0
    by_cases h1 : i < n
    · have d1 : decide (i < (n : Int)) = true := by simpa using h1
      rw [decide_eq_true ⟨h0, h1⟩]
      clear h0 h1
      go_enter Try.func50, Try.ntmps50
      go_wp2
      go_ret
      exact ⟨rfl, rfl⟩
    · have d1 : decide (i < (n : Int)) = false := by simpa using h1
      rw [decide_eq_false (fun h => h1 h.2)]
      clear h0 h1
      go_enter Try.func50, Try.ntmps50
      go_wp2
      go_ret
      exact ⟨rfl, rfl⟩
  · have d0 : decide (0 ≤ i) = false := by simpa using h0
    rw [decide_eq_false (fun h => h0 h.1)]
    clear h0
    go_enter Try.func50, Try.ntmps50
    go_wp2
    go_ret
    exact ⟨rfl, rfl⟩
/-- One is spent; or the power is off then. -/
def spendD (D : Dsk) : Dsk := if D.off = true then D else if D.bud = 0 then { D with off := true } else if 0 < D.bud then { D with bud := D.bud - 1 } else D
def onD (D : Dsk) : Bool := !D.off && !decide (D.bud = 0)
end
section
open Go.RowKit
set_option linter.unusedVariables false
attribute [local go_sem] Oper.semAt_some
/-- What a word that changes the disk alone leaves. -/
def Left (W : World) (b0 d hb : Nat) (V : Value) (D : Dsk) (w' : World) : Prop := DkAt w' b0 d hb V D ∧ Only (Mine d hb V) W w'
theorem spend_any {W : World} {b0 d hb : Nat} {V : Value} {D : Dsk} (h : DkAt W b0 d hb V D) :
    Calls Try.prog 58 #[.pointer (some ⟨d, 0, none⟩)] W fun e w' => e = .returned (.bool (onD D)) ∧ Left W b0 d hb V (spendD D) w' := by
  have x2 := h.cells.cell (j := 2) rfl
  have x3 := h.cells.cell (j := 3) rfl
  have f2 := h.cells.frozen 2
  have f3 := h.cells.frozen 3
  have H := hid h
  have HO := hid (h.off_set true)
  have HB := hid (fun (hk : 0 < D.bud) => h.bud_set (D.bud - 1) (by have := h.bd; omega))
  obtain ⟨has, waits, bud, off, ys, cp⟩ := D
  dsimp only at x2 x3
  have hbd := h.bd
  dsimp only at hbd
  obtain ⟨hbd1, hbd2⟩ := hbd
  clear h
  by_cases h0 : bud = 0
  · have e0 : (bud == 0) = true := by simpa using h0
    have HS := hid (show spendD ⟨has, waits, bud, off, ys, cp⟩ = ⟨has, waits, bud, true, ys, cp⟩ by
      unfold spendD
      cases off
      · rw [if_neg (by simp), if_pos h0]
      · rw [if_pos rfl])
    have HN := hid (show onD ⟨has, waits, bud, off, ys, cp⟩ = false by unfold onD; rw [decide_eq_true h0]; simp)
    clear h0
    go_enter Try.func58, Try.ntmps58
    go_wp2
    go_ret
    rw [HN.out, HS.out]
    exact ⟨rfl, HO.out, Only.of_set _ _ _ (.inl rfl)⟩
  · have e0 : (bud == 0) = false := by simpa using h0
    cases off with
    | true =>
      have HS := hid (show spendD ⟨has, waits, bud, true, ys, cp⟩ = ⟨has, waits, bud, true, ys, cp⟩ by unfold spendD; rw [if_pos rfl])
      have HN := hid (show onD ⟨has, waits, bud, true, ys, cp⟩ = false from rfl)
      clear h0
      go_enter Try.func58, Try.ntmps58
      go_wp2
      go_ret
      rw [HN.out, HS.out]
      exact ⟨rfl, H.out, Only.refl _ _⟩
    | false =>
      have HN := hid (show onD ⟨has, waits, bud, false, ys, cp⟩ = true by unfold onD; rw [decide_eq_false h0]; rfl)
      by_cases h1 : 0 < bud
      · have d1 : decide (0 < bud) = true := by simpa using h1
        have HS := hid (show spendD ⟨has, waits, bud, false, ys, cp⟩ = ⟨has, waits, bud - 1, false, ys, cp⟩ by unfold spendD; rw [if_neg (by simp), if_neg h0, if_pos h1])
        have HB2 := hid (HB.out h1)
        have h1' : 1 ≤ bud := h1
        clear h0 h1
        go_enter Try.func58, Try.ntmps58
        go_wp2
        go_ret
        rw [HN.out, HS.out]
        exact ⟨rfl, HB2.out, Only.of_set _ _ _ (.inl rfl)⟩
      · have d1 : decide (0 < bud) = false := by simpa using h1
        have HS := hid (show spendD ⟨has, waits, bud, false, ys, cp⟩ = ⟨has, waits, bud, false, ys, cp⟩ by unfold spendD; rw [if_neg (by simp), if_neg h0, if_neg h1])
        clear h0 h1
        go_enter Try.func58, Try.ntmps58
        go_wp2
        go_ret
        rw [HN.out, HS.out]
        exact ⟨rfl, H.out, Only.refl _ _⟩
theorem power_any {W : World} {b0 d hb : Nat} {V : Value} {D : Dsk} (h : DkAt W b0 d hb V D) :
    Calls Try.prog 66 #[.pointer (some ⟨d, 0, none⟩)] W fun e w' => e = .returned (.bool (!D.off)) ∧ W = w' := by
  have x3 := h.cells.cell (j := 3) rfl
  obtain ⟨off, ho⟩ : ∃ o, D.off = o := ⟨_, rfl⟩
  rw [ho] at x3 ⊢
  clear h ho
  go_enter Try.func66, Try.ntmps66
  go_wp2
  go_ret
  exact ⟨rfl, rfl⟩
theorem budget_any {W : World} {b0 d hb : Nat} {V : Value} {D : Dsk} (h : DkAt W b0 d hb V D) (n : Int) (hn : -1 ≤ n) (hn2 : n ≤ 9223372036854775807) :
    Calls Try.prog 15 #[.pointer (some ⟨d, 0, none⟩), .int .i64 n] W fun e w' => e = .returned (.int .i64 0) ∧ Left W b0 d hb V { D with bud := n } w' := by
  have x2 := h.cells.cell (j := 2) rfl
  have f2 := h.cells.frozen 2
  have HB := hid (h.bud_set n ⟨hn, hn2⟩)
  have d0 : decide (n < -1) = false := by simp; omega
  clear h
  go_enter Try.func15, Try.ntmps15
  go_wp2
  go_ret
  exact ⟨rfl, HB.out, Only.of_set _ _ _ (.inl rfl)⟩
theorem budget_no (d : Nat) (W : World) (n : Int) (hn : n < -1) :
    Calls Try.prog 15 #[.pointer (some ⟨d, 0, none⟩), .int .i64 n] W fun e w' => e = .returned (.int .i64 1) ∧ W = w' := by
  have d0 : decide (n < -1) = true := by simpa using hn
  go_enter Try.func15, Try.ntmps15
  go_wp2
  go_ret
  exact ⟨rfl, rfl⟩
theorem on_any {W : World} {b0 d hb : Nat} {V : Value} {D : Dsk} (h : DkAt W b0 d hb V D) :
    Calls Try.prog 17 #[.pointer (some ⟨d, 0, none⟩)] W fun e w' => e = .returned (.tuple #[]) ∧ DkAt w' b0 d hb (.slice none 0 0) { D with waits := [], bud := -1, off := false } ∧ Only (Mine d hb V) W w' := by
  have x1 := h.cells.cell (j := 1) rfl
  have x2 := h.cells.cell (j := 2) rfl
  have x3 := h.cells.cell (j := 3) rfl
  have f1 := h.cells.frozen 1
  have f2 := h.cells.frozen 2
  have f3 := h.cells.frozen 3
  have HB := hid ((h.wait_nil.bud_set (-1) ⟨by omega, by omega⟩).off_set false)
  clear h
  go_enter Try.func17, Try.ntmps17
  go_wp2
  go_end0
  exact ⟨rfl, HB.out, ((Only.of_set W ⟨d, 1, none⟩ _ (.inl rfl)).trans (Only.of_set (T := Mine d hb V) _ ⟨d, 2, none⟩ _ (.inl rfl)) (fun g h => .inl h)).trans (Only.of_set (T := Mine d hb V) _ ⟨d, 3, none⟩ _ (.inl rfl)) (fun g h => .inl h)⟩
end
section
open Go.RowKit
set_option linter.unusedVariables false
attribute [local go_sem] Oper.semAt_some
def zSec : Value := .agg (Array.replicate 128 (.int .u8 0))
theorem secS : SliceT Try.prog 91 99 zSec 128 128 := ⟨Try.underlying91, by kernel_rfl, by simp [zSec, Value.cells], by omega⟩
theorem made_same (v : Value) (k m : Nat) (hk : 0 < k) : (madeCells (Array.replicate k v) m).toList = List.replicate m v := by
  refine List.ext_getElem? fun i => ?_
  unfold madeCells
  by_cases h : i < m
  · rw [Array.toList_map, List.getElem?_map, List.getElem?_replicate, if_pos h]
    simp [h]
    rw [Array.getElem!_eq_getD, Array.getD_eq_getD_getElem?, Array.getElem?_replicate, if_pos (Nat.mod_lt _ hk)]
    rfl
  · rw [List.getElem?_eq_none (by simp; omega), List.getElem?_eq_none (by simp; omega)]
theorem secC_zero (n : Nat) : secC (List.replicate n (List.replicate 128 0)) = List.replicate (n * 128) (Value.int .u8 0) := by
  unfold secC
  induction n with
  | zero => rfl
  | succ n ih =>
    rw [List.replicate_succ, List.flatMap_cons, ih, List.map_replicate, show B8 0 = Value.int .u8 0 from rfl, List.replicate_append_replicate]
    congr 1
    omega
theorem own_exact {w : World} {b0 size g n : Nat} {e : TypeId} {xs : List Value} (h : w.ownsRow b0 e size (.slice (some ⟨g, 0, none⟩) n n) n xs) : OwnE w g e xs := by
  rcases h.2 with ⟨e', _⟩ | ⟨k, cap, cur, e', _, hk, _, _, hs, ht⟩
  · cases e'
  · injection e' with e1 _ e3
    injection e1 with e1
    injection e1 with e1
    subst e1
    subst e3
    unfold OwnE
    rw [hk, ← ht, List.take_of_length_le (by rw [Array.length_toList]; omega)]
set_option maxHeartbeats 1000000 in
theorem new_any (n : Nat) (h1 : 1 ≤ n) (h2 : n ≤ 2048) (W : World) :
    Calls Try.prog 23 #[.int .i64 (n : Int)] W fun e w' => ∃ d hb, e = .returned (.tuple #[.pointer (some ⟨d, 0, none⟩), .int .i64 0]) ∧ DkAt w' W.heap.size d hb (.slice none 0 0) ⟨List.replicate n (List.replicate 128 0), [], -1, false, [], n⟩ ∧ Below W.heap.size W w' := by
  obtain ⟨i0, hi0, hz0, hz1, hz2⟩ := info_parts secS.info
  have Hz1 := hid hz1
  have Hz2 := hid hz2
  have Hi0 := hid hi0
  have Hz0 := hid hz0
  have d1 : decide ((n : Int) < 1) = false := by simp; omega
  have d1' : decide (n < 1) = false := by simp; omega
  have d2 : decide ((2048 : Int) < (n : Int)) = false := by simp; omega
  have d2' : decide (2048 < n) = false := by simp; omega
  have H1 := hid h1
  have H2 := hid h2
  clear hz1 hz2 hi0 hz0
  go_enter Try.func23, Try.ntmps23
  go_wp2_with (
    refine wpList_make_full _ rfl (.tmp 10) (.tmp 10) 91 rfl W.heap.size 99 i0 zSec 128 Try.underlying91 Hi0.out Hz0.out Hz1.out .i64 .i64 n n n rfl rfl rfl rfl (by rw [Hz2.out]; have := H2.out; omega) (by unfold maxLen; have := H2.out; omega) (Nat.le_refl _) ?_
    intro w1 ho1 hg1
    have hb1 := (Below.refl W.heap.size W).grown hg1 (Nat.le_refl _) (fun k hk => by cases hk)
    have HB1 := hid hb1
    have HOW := hid ho1
    clear hg1 ho1 hb1)
  go_ret2
  have hsec : OwnE w1 W.heap.size 99 (secC (List.replicate n (List.replicate 128 0))) := by
    rw [secC_zero]
    have := own_exact HOW.out
    rw [show zSec.cells = Array.replicate 128 (Value.int .u8 0) from rfl, made_same _ _ _ (by omega)] at this
    exact this
  refine ⟨_, _, rfl, ⟨HB1.out.size, Nat.le_refl _, ?_, (show OwnE _ _ _ (secC _ ++ []) by rw [List.append_nil]; exact hsec).below ((Below.refl _ _).alloc (Nat.le_refl _) _), World.ownsRow_nil _ _ _ _, fun s hs => ?_, (fun p hp => by cases hp), by rw [List.length_replicate]; exact H2.out, ⟨by show (-1 : Int) ≤ -1; omega, by show (-1 : Int) ≤ _; omega⟩⟩, HB1.out.alloc HB1.out.size _⟩
  · show OwnE _ _ _ [.slice _ (List.replicate n (List.replicate 128 (0 : UInt8))).length n, _, _, _]
    rw [List.length_replicate]
    exact heap_alloc_new w1 _
  · rw [List.eq_of_mem_replicate hs, List.length_replicate]
theorem new_no (n : Int) (h : n < 1 ∨ 2048 < n) (W : World) :
    Calls Try.prog 23 #[.int .i64 n] W fun e w' => e = .returned (.tuple #[.pointer none, .int .i64 1]) ∧ W = w' := by
  by_cases h1 : n < 1
  · have d1 : decide (n < 1) = true := by simpa using h1
    clear h h1
    go_enter Try.func23, Try.ntmps23
    go_wp2
    go_ret2
    exact ⟨rfl, rfl⟩
  · have d1 : decide (n < 1) = false := by simpa using h1
    have d2 : decide (2048 < n) = true := by simp; omega
    clear h h1
    go_enter Try.func23, Try.ntmps23
    go_wp2
    go_ret2
    exact ⟨rfl, rfl⟩
end
section
open Go.RowKit
set_option linter.unusedVariables false
attribute [local go_sem] Oper.semAt_some
theorem secLen : Try.prog.arrayLen 99 = 128 := by kernel_rfl
theorem octets_any (s : List UInt8) (hs : s.length = 128) (W : World) :
    Calls Try.prog 52 #[.agg (s.map B8).toArray] W fun e w' => e = .returned (.slice (some ⟨W.heap.size, 0, none⟩) 128 128) ∧ w' = W.alloc (.cells (s.map B8).toArray 99) := by
  have hl := secLen
  obtain ⟨A, hA⟩ : ∃ A, (s.map B8).toArray = A := ⟨_, rfl⟩
  rw [hA]
  clear hA
  go_enter Try.func52, Try.ntmps52
  go_wp2
  go_ret
  exact ⟨rfl, rfl⟩
end
end Go.Proofs.Ytpppmijohfjigaa
