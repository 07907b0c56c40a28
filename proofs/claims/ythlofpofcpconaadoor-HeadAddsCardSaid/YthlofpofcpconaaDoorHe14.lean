/-
  strings.Builder.WriteString. A part of the proof: see the head of the text that ends in 'Law'.
-/
import Derived.Test.YthlofpofcpconaaDoorHe13
import Derived.Lib.AppendStr
namespace Go.Proofs.YthlofpofcpconaaDoor
open Go.RowKit
set_option linter.unusedVariables false
attribute [local go_sem] Oper.semAt_some

theorem strCells_B8 (s : List UInt8) : Lib.strCells (str s) = s.map B8 := by
  unfold Lib.strCells
  first
  | rfl
  | simp [str, B8]
theorem bld_endS {B b : Nat} {l s : List UInt8} {v v' : Value} {w1 w2 : World} (hB : B ≤ b) (hE : OwnE w1 b 65 [.pointer (some ⟨b, 0, none⟩), v]) (hne : v.ownBlock ≠ some b)
    (ho : w2.ownsRow B 5 1 v' (l ++ s).length ((l ++ s).map B8)) (hg : w1.grownBy w2 v.ownBlock) :
    OwnE w2 b 65 [.pointer (some ⟨b, 0, none⟩), v] ∧ BldAt B b (l ++ s) (w2.setCell ⟨b, 1, none⟩ v') := by
  have hE2 : OwnE w2 b 65 [.pointer (some ⟨b, 0, none⟩), v] := hE.grown hg hne
  have hn2 : v'.ownBlock ≠ some b := hE2.row_ne ho (by decide)
  refine ⟨hE2, .inr ⟨hB, v', hE2.set 1 _, ?_, hn2⟩⟩
  have := row_far (i := 1) ho hn2 v'
  simpa using this
theorem keptB_grown (b : Nat) {B n : Nat} {v : Value} {xs : List Value} {w1 w2 : World} (hr : w1.ownsRow B 5 1 v n xs) (hg : w1.grownBy w2 v.ownBlock) : KeptB b w1 w2 := by
  refine ⟨KeepsOthers.of_grownBy hg fun j o ej hj => ?_, fun B0 T cs h1 h2 h3 => (hg.block B0 (lt_of_heap h3) (fun e => ?_)).trans h3⟩
  · rcases hr.2 with ⟨rfl, _⟩ | ⟨g, cap, cur, rfl, _, hgb, _⟩
    · simp [Value.ownBlock] at ej
    · obtain rfl : g = j := by simpa [Value.ownBlock] using ej
      rw [hgb] at hj; cases hj; rfl
  · obtain ⟨cur, hh⟩ := own_type hr B0 e.symm
    rw [h3] at hh
    injection hh with hh
    injection hh with _ ht
    exact h1 ht
set_option maxRecDepth 100000 in
set_option maxHeartbeats 1000000 in
theorem writeStr_any (B b : Nat) (l s : List UInt8) (w : World) (h : BldAt B b l w) (hl : l.length + s.length ≤ 100000000000) (hBw : B ≤ w.heap.size) :
    Calls Tryd.prog 43 #[.pointer (some ⟨b, 0, none⟩), .string (str s)] w fun e w' => (∃ v, e = .returned v) ∧ BldAt B b (l ++ s) w' ∧ Below B w w' ∧ KeptB b w w' := by
  have HC := hid (copyCheck_any B b _ w h)
  have HL := hid hl
  have HB := hid hBw
  obtain ⟨i0, hi, hz0, hz1, hz2⟩ := info_parts u8S.info
  clear h hl hBw
  go_enter Tryd.func43, Tryd.ntmps43
  go_wp2_with (first
    | (go_at_call 54
       refine HC.out.mono ?_
       rintro e w1 ⟨rfl, h1, b1, kb1⟩
       have KB := hid kb1
       clear kb1
       obtain ⟨hB, v, hb, hr, hne⟩ := h1
       have hE : OwnE w1 b 65 [.pointer (some ⟨b, 0, none⟩), v] := hb
       have hex : ∃ A1 n1 c1, v = .slice A1 n1 c1 ∧ n1 = l.length := by
         obtain ⟨A1, c1, hv, _⟩ := own_slice hr
         exact ⟨A1, _, c1, hv, List.length_map ..⟩
       obtain ⟨A1, n1, c1, hv, hn1⟩ := hex
       subst hv
       rw [List.length_map] at hr
       have x1 := hE.cell (j := 1) rfl
       have HE := hid hE
       have HR := hid hr
       have HNE := hid hne
       have HBB := hid hB
       have B1 := hid b1
       have HN1 := hid hn1
       clear hb hr hne hB b1 hE hn1)
    | (refine Lib.wpList_append_own_string _ rfl _ _ 22 9 rfl B 5 i0 Tryd.underlying22 Tryd.underlying9 hi hz0 hz1 hz2 (.slice A1 n1 c1) l.length (l.map B8) rfl HR.out (str s) rfl (by have := HL.out; simp only [maxLen, str_size]; omega) (by have := HL.out; rw [str_size]; omega) (by have := HB.out; have := B1.out.size; omega) ?_
       intro v2 w2 ho2 hg2 hh2
       rw [strCells_B8, ← List.map_append, str_size, ← List.length_append] at ho2
       obtain ⟨A2, c2, hv2, -⟩ := own_slice ho2
       subst hv2
       have hend := bld_endS HBB.out HE.out HNE.out ho2 hg2
       have y1 := hend.1.cell (j := 1) rfl
       have f1 := hend.1.frozen 1
       have HX := hid hend.2
       have hb2 : Below B w w2 := B1.out.grown hg2 (by have := HB.out; have := B1.out.size; omega) (fun k hk => own_base HR.out k hk)
       have HB2 := hid (hb2.setCell (p := ⟨b, 1, none⟩) HBB.out (.slice A2 (l ++ s).length c2))
       have HK2 := hid (KB.out.trans ((keptB_grown b HR.out hg2).trans (KeptB.set b w2 1 (.slice A2 (l ++ s).length c2))))
       clear hend ho2 hg2 hh2 hb2))
  go_ret2
  have h1 := HX.out
  have h2 := HB2.out
  have h3 := HK2.out
  rw [List.length_append] at h1 h2 h3
  exact ⟨⟨_, rfl⟩, h1, h2, h3⟩
end Go.Proofs.YthlofpofcpconaaDoor
