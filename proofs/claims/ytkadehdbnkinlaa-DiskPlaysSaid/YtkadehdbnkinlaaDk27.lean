/-
  The document's disk: Read, Write. A part of the proof: see the head of the text that ends in 'Law'.
-/
import Derived.Test.YtkadehdbnkinlaaDk26
namespace Go.Proofs.Ytkadehdbnkinlaa
open Go.RowKit
set_option linter.unusedVariables false
attribute [local go_sem] Oper.semAt_some

theorem wtC_len (p : Iss) : (wtC p).length = 2 := rfl
theorem own_slice {W : World} {b0 n size : Nat} {e : TypeId} {v : Value} {xs : List Value} (h : W.ownsRow b0 e size v n xs) : ∃ A c, v = .slice A n c ∧ (0 < n → ∃ g, A = some ⟨g, 0, none⟩) := by
  rcases h.2 with ⟨e1, e2⟩ | ⟨g, cap, cur, e, _⟩
  · subst e1 e2
    exact ⟨none, 0, rfl, fun h => absurd h (Nat.lt_irrefl 0)⟩
  · exact ⟨_, _, e, fun _ => ⟨g, rfl⟩⟩
/-- What waits, as cells. -/
theorem RfAt.wcell {W : World} {b0 m : Nat} {VH : Value} {D : Dsk} {g c : Nat} (h : RfAt W b0 m VH (.slice (some ⟨g, 0, none⟩) D.waits.length c) D) (k : Nat) (hk : k < D.waits.length) : W.cell? ⟨g, k * 2, none⟩ = some (.int .i64 (D.waits[k]'hk).1) ∧ W.cell? ⟨g, k * 2 + 1, none⟩ = some (SV (D.waits[k]'hk).2) := by
  have g0 := flatMap_get wtC 2 wtC_len D.waits k 0 hk (by omega)
  have g1 := flatMap_get wtC 2 wtC_len D.waits k 1 hk (by omega)
  exact ⟨(h.ls.cellAt (k * 2) (by omega)).trans (g0.trans rfl), (h.ls.cellAt (k * 2 + 1) (by omega)).trans (g1.trans rfl)⟩
theorem RfAt.hcell {W : World} {b0 m : Nat} {VL : Value} {D : Dsk} {g c : Nat} (h : RfAt W b0 m (.slice (some ⟨g, 0, none⟩) D.has.length c) VL D) (k : Nat) (hk : k < D.has.length) : W.cell? ⟨g, k, none⟩ = some (SV (D.has.getD k [])) := by
  rw [h.hs.cellAt k (by omega), List.getElem?_map, List.getD_eq_getElem?_getD, List.getElem?_eq_getElem hk]
  rfl
/-- Read's answer of the document's. -/
def readR (D : Dsk) (i : Int) : List UInt8 × Nat := if 0 ≤ i ∧ i < D.has.length then (if D.off = true then ([], 10) else (readD D i.toNat, 0)) else ([], 4)
set_option maxRecDepth 100000 in
set_option maxHeartbeats 2000000 in
theorem rread_any {w0 W : World} {m : Nat} {D : Dsk} (h : RSt w0 W m D) (hs : w0.heap.size ≤ W.heap.size) (i : Int) (hw : D.waits.length ≤ 100000) :
    Calls Try.prog 20 #[.pointer (some ⟨m, 0, none⟩), .int .i64 i] W fun e w' => e = .returned (.tuple #[SV (readR D i).1, .int .i64 ((readR D i).2 : Int)]) ∧ W = w' := by
  obtain ⟨VH, VL, h⟩ := h
  have x0 := h.cells.cell (j := 0) rfl
  have x1 := h.cells.cell (j := 1) rfl
  have x3 := h.cells.cell (j := 3) rfl
  obtain ⟨AH, cH, rfl, hAH⟩ := own_slice h.hs
  obtain ⟨AL, cL, rfl, hAL⟩ := own_slice h.ls
  have H := hid h
  have nb := h.nb
  by_cases hi : 0 ≤ i ∧ i < D.has.length
  · obtain ⟨k0, rfl⟩ : ∃ k : Nat, i = (k : Int) := ⟨i.toNat, by omega⟩
    have hk0 : k0 < D.has.length := by omega
    obtain ⟨gH, rfl⟩ := hAH (by omega)
    have hc := h.hcell k0 hk0
    have d1 : decide ((k0 : Int) < 0) = false := by simp
    have d2 : decide ((D.has.length : Int) ≤ (k0 : Int)) = false := by simp; omega
    obtain ⟨nh, hnh⟩ : ∃ n, D.has.length = n := ⟨_, rfl⟩
    rw [hnh] at x0 d2 hk0
    have d2' : decide (nh ≤ k0) = false := by simp; omega
    cases hoff : D.off with
    | true =>
      have e : readR D (k0 : Int) = ([], 10) := by unfold readR; rw [if_pos hi, if_pos hoff]
      rw [e]
      rw [hoff] at x3
      clear h H hi hc hAL hAH nb hnh hoff
      unfold SV
      go_enter Try.func20, Try.ntmps20
      go_wp2
      go_ret2
      exact ⟨rfl, rfl⟩
    | false =>
      have e : readR D (k0 : Int) = (readD D k0, 0) := by unfold readR; rw [if_pos hi, if_neg (by rw [hoff]; decide)]; rfl
      rw [e]
      rw [hoff] at x3
      obtain ⟨s0, hs0⟩ : ∃ s, D.has.getD k0 [] = s := ⟨_, rfl⟩
      rw [hs0] at hc
      have hrd : readD D k0 = (lastD D.waits k0).getD s0 := by unfold readD; rw [hs0]
      obtain ⟨nw, hnw⟩ : ∃ n, D.waits.length = n := ⟨_, rfl⟩
      have HNW := hid hnw
      have HAL := hid hAL
      have HRD := hid hrd
      rw [hnw] at x1 hw
      have i0 : (0 : Int) ≤ (k0 : Int) := by omega
      have i1 : (k0 : Int) < (nh : Int) := by omega
      have i2 : (k0 : Int).toNat = k0 := by omega
      clear h hi hAL hAH nb hnh hoff hs0 hnw hrd
      unfold SV at hc ⊢
      go_enter Try.func20, Try.ntmps20
      go_wp2
      go_loopw [6, 7] (fun sv k wr => ∃ j : Nat, j ≤ nw ∧ k = .int .i64 (j : Int) ∧ sv = .string (str ((lastD (D.waits.take j) k0).getD s0)) ∧ W = wr) (fun sv k wr => nw - (intOf k).toNat)
      case atStart => exact ⟨0, by omega, rfl, rfl, rfl⟩
      case round =>
        obtain ⟨j, hj, rfl, rfl, hw2⟩ := hrel
        subst hw2
        by_cases hlt : j < nw
        · have d5 : decide ((j : Int) < (nw : Int)) = true := by simp; omega
          have d5' : decide (j < nw) = true := by simp; omega
          have j0 : (0 : Int) ≤ (j : Int) := by omega
          have j1 : (j : Int) < (nw : Int) := by omega
          have j2 : (j : Int).toNat = j := by omega
          have hjl : j < D.waits.length := by rw [HNW.out]; exact hlt
          obtain ⟨gL, rfl⟩ := HAL.out (by omega)
          obtain ⟨c0, c1⟩ := H.out.wcell j hjl
          have hls : lastD (D.waits.take (j + 1)) k0 = if (D.waits[j]'hjl).1 = (k0 : Int) then some (D.waits[j]'hjl).2 else lastD (D.waits.take j) k0 := by
            rw [List.take_succ_eq_append_getElem hjl, lastD_snoc]
          obtain ⟨q, hq⟩ : ∃ q, D.waits[j]'hjl = q := ⟨_, rfl⟩
          rw [hq] at c0 c1 hls
          unfold SV at c1
          have HLS := hid hls
          clear hq hls
          by_cases hat : q.1 = (k0 : Int)
          · have d6 : (q.1 == (k0 : Int)) = true := by simpa using hat
            have HAT := hid hat
            clear hat
            go_wp2
            go_roundw
            case rel => exact ⟨j + 1, by omega, by go_num, by rw [HLS.out, if_pos HAT.out]; rfl, by first | rfl | trivial⟩
            case measure => simp [intOf]; omega
          · have d6 : (q.1 == (k0 : Int)) = false := by simpa using hat
            have HAT := hid hat
            clear hat
            go_wp2
            go_roundw
            case rel => exact ⟨j + 1, by omega, by go_num, by rw [HLS.out, if_neg HAT.out], by first | rfl | trivial⟩
            case measure => simp [intOf]; omega
        · have d5 : decide ((j : Int) < (nw : Int)) = false := by simp; omega
          have d5' : decide (j < nw) = false := by simp; omega
          have hjn : D.waits.take j = D.waits := List.take_of_length_le (by rw [HNW.out]; omega)
          have HJN := hid hjn
          clear hjn
          go_wp2
          go_ret2
          rw [HRD.out, HJN.out]
          exact ⟨rfl, rfl⟩
  · have e : readR D i = ([], 4) := by unfold readR; rw [if_neg hi]
    rw [e]
    obtain ⟨nh, hnh⟩ : ∃ n, D.has.length = n := ⟨_, rfl⟩
    rw [hnh] at x0 hi
    unfold SV
    by_cases h0 : i < 0
    · have d1 : decide (i < 0) = true := by simpa using h0
      clear h H hi hAL hAH nb hnh
      go_enter Try.func20, Try.ntmps20
      go_wp2
      go_ret2
      exact ⟨rfl, rfl⟩
    · have d1 : decide (i < 0) = false := by simpa using h0
      have d2 : decide ((nh : Int) ≤ i) = true := by simp; omega
      clear h H hi hAL hAH nb hnh
      go_enter Try.func20, Try.ntmps20
      go_wp2
      go_ret2
      exact ⟨rfl, rfl⟩
/-- Write, on what the document's disk is. -/
def writeR (D : Dsk) (i : Int) (s : List UInt8) : Dsk × Nat := if 0 ≤ i ∧ i < D.has.length then (if s.length = 128 then writeD D i s else (D, 1)) else (D, 4)
theorem waitS : SliceT Try.prog 51 56 (.agg #[.int .i64 0, .string ⟨#[]⟩]) 2 24 := ⟨Try.underlying51, by kernel_rfl, rfl, by decide⟩
/-- A write more waits. -/
theorem wr_end {w0 w2 w3 : World} {m : Nat} {VH : Value} {A3 : Option Addr} {D : Dsk} {AL : Option Addr} {cL c3 : Nat} {i : Int} {s : List UInt8} (r : RfAt w2 w0.heap.size m VH (.slice AL D.waits.length cL) D) (hs : w0.heap.size ≤ w2.heap.size) (hi : 0 ≤ i ∧ i < D.has.length)
    (ho3 : w3.ownsRow w0.heap.size 56 2 (.slice A3 (D.waits.length + 1) c3) (D.waits.length + 1) (D.waits.flatMap wtC ++ [.int .i64 i, .string (str s)])) (hg3 : (w2.alloc (.cells #[.int .i64 i, .string (str s)] 56)).grownBy w3 (Value.ownBlock (.slice AL D.waits.length cL)))
    (hh3 : Value.ownBlock (.slice A3 (D.waits.length + 1) c3) = Value.ownBlock (.slice AL D.waits.length cL) ∨ Value.ownBlock (.slice A3 (D.waits.length + 1) c3) = some (w2.alloc (.cells #[.int .i64 i, .string (str s)] 56)).heap.size) :
    OwnE w3 m 53 [VH, .slice AL D.waits.length cL, .int .i64 D.bud, .bool D.off] ∧ RSt w0 (w3.setCell ⟨m, 1, none⟩ (.slice A3 (D.waits.length + 1) c3)) m { D with waits := D.waits ++ [(i, s)] } ∧ RLets w0 w2 (w3.setCell ⟨m, 1, none⟩ (.slice A3 (D.waits.length + 1) c3)) := by
  have hA : Below w2.heap.size w2 (w2.alloc (.cells #[.int .i64 i, .string (str s)] 56)) := (Below.refl _ _).alloc (Nat.le_refl _) _
  have hm3 := (r.cells.below hA).grown hg3 r.ml
  have hO : Only (RMine m VH (.slice AL D.waits.length cL)) w2 w3 := (Only.of_below hA).trans (Only.of_grown (T := RMine m VH (.slice AL D.waits.length cL)) hg3 (fun g e => .inr (.inr e))) (fun g h => .inl h)
  have hs3 : w3.ownsRow w0.heap.size 9 1 VH D.has.length (D.has.map SV) := own_only (T := fun g => Value.ownBlock (.slice AL D.waits.length cL) = some g) r.hs ((Only.of_below (T := fun g => Value.ownBlock (.slice AL D.waits.length cL) = some g) hA).trans (Only.of_grown hg3 (fun g e => e)) (fun g h => .inl h)) (fun g hg => r.hl g hg)
  have hml : m < w2.heap.size := r.cells.lt
  refine ⟨hm3, ⟨VH, .slice A3 (D.waits.length + 1) c3, r.m0, hm3.set 1 _, row_far hs3 r.mh _, ?_, ?_, r.nb, r.bd⟩, RLets.of_only r (hO.trans (Only.of_set (T := RMine m VH (.slice AL D.waits.length cL)) w3 ⟨m, 1, none⟩ _ rm_m) (fun g h => .inl h)) hs⟩
  · have hne : Value.ownBlock (.slice A3 (D.waits.length + 1) c3) ≠ some m := by
      rcases hh3 with e | e
      · rw [e]; exact r.ml
      · rw [e]
        intro e2
        injection e2 with e2
        simp at e2
        omega
    have := row_far ho3 hne (i := 1) (.slice A3 (D.waits.length + 1) c3)
    rw [show (D.waits ++ [(i, s)]).length = D.waits.length + 1 by simp, show (D.waits ++ [(i, s)]).flatMap wtC = D.waits.flatMap wtC ++ [.int .i64 i, .string (str s)] by rw [List.flatMap_append]; rfl]
    exact this
  · intro p hp
    rcases List.mem_append.1 hp with h | h
    · exact r.wl p h
    · rw [List.mem_singleton] at h
      subst h
      exact hi
set_option maxRecDepth 100000 in
set_option maxHeartbeats 2000000 in
theorem rwrite_any {w0 W : World} {m : Nat} {D : Dsk} (h : RSt w0 W m D) (hs : w0.heap.size ≤ W.heap.size) (i : Int) (s : List UInt8) (hw : D.waits.length ≤ 100000) :
    Calls Try.prog 21 #[.pointer (some ⟨m, 0, none⟩), .int .i64 i, SV s] W (RPost w0 W m (writeR D i s).1 (.int .i64 ((writeR D i s).2 : Int))) := by
  have h0' := h
  obtain ⟨VH, VL, h⟩ := h
  have x0 := h.cells.cell (j := 0) rfl
  obtain ⟨AH, cH, rfl, hAH⟩ := own_slice h.hs
  have nb := h.nb
  obtain ⟨nh, hnh⟩ : ∃ n, D.has.length = n := ⟨_, rfl⟩
  have HNH := hid hnh
  rw [hnh] at x0 nb
  have hsz : (str s).size = s.length := rfl
  have HF := hid (rfails_any h0' hs)
  have H0 := hid h0'
  clear hnh hAH h h0'
  unfold SV
  by_cases hi : 0 ≤ i ∧ i < nh
  · have d1 : decide (i < 0) = false := by simp; omega
    have d2 : decide ((nh : Int) ≤ i) = false := by simp; omega
    by_cases h128 : s.length = 128
    · have e : writeR D i s = writeD D i s := by unfold writeR; rw [HNH.out, if_pos hi, if_pos h128]
      rw [e]
      have d3 : ((s.length : Int) != 128) = false := by rw [h128]; rfl
      have d3' : (s.length != 128) = false := by rw [h128]; rfl
      have hz : (str s).size = 128 := by rw [hsz, h128]
      clear hsz
      cases hon : onD D with
      | true =>
        have e2 : writeD D i s = ({ spendD D with waits := D.waits ++ [(i, s)] }, 0) := by unfold writeD; rw [HNH.out, if_pos hi, if_pos hon]
        rw [e2]
        rw [hon] at HF
        have HI := hid hi
        clear e e2 hon hi
        go_enter Try.func21, Try.ntmps21
        go_upto_region 7 with (go_at_call 35; (with_reducible refine HF.out.mono ?_); rintro e w2 ⟨rfl, r2, l2⟩; have R2 := hid r2; have L2 := hid l2; clear r2 l2)
        obtain ⟨VH2, VL2, r2⟩ := R2.out
        have y1 := r2.cells.cell (j := 1) rfl
        have z1 := r2.cells.frozen 1
        obtain ⟨AL, cL, rfl, hAL⟩ := own_slice r2.ls
        have esp := (spend_has D)
        have HR2 := hid r2
        have hw2 : (spendD D).waits.length ≤ 100000 := by rw [esp.2]; exact hw
        have HW2 := hid hw2
        have HESP := hid esp
        clear r2 hAL esp hw2
        obtain ⟨D2, hD2⟩ : ∃ D2, spendD D = D2 := ⟨_, rfl⟩
        have e9 : ({ spendD D with waits := D.waits ++ [(i, s)] } : Dsk) = { D2 with waits := D2.waits ++ [(i, s)] } := by rw [← hD2, HESP.out.2]
        have hi2 : 0 ≤ i ∧ i < D2.has.length := by rw [← hD2, HESP.out.1, HNH.out]; exact HI.out
        have HI2 := hid hi2
        have E9 := hid e9
        rw [hD2] at HR2 HW2 y1
        have hs2 : w0.heap.size ≤ w2.heap.size := Nat.le_trans hs L2.out.bel.size
        have HS2 := hid hs2
        clear hD2 e9 hi2 hs2
        go_wp2_with (
          refine wpList_append_row _ rfl (.tmp 27) (.tmp 31) waitS rfl w0.heap.size (.slice AL D2.waits.length cL) D2.waits.length (D2.waits.flatMap wtC) rfl (own_only HR2.out.ls (Only.of_below (T := fun _ => False) ((Below.refl _ w2).alloc (Nat.le_refl _) _)) (fun _ _ h => h)) (some ⟨w2.heap.size, 0, none⟩) 1 1 [.int .i64 i, .string (str s)] rfl rfl (Row.of_block (heap_alloc_new w2 (Obj.cells #[.int .i64 i, .string (str s)] 56))) (by simp [Value.oneCell']) (by have := HW2.out; simp only [maxLen]; omega) (by have := HW2.out; omega) (by have := HS2.out; simp; omega) ?_
          intro A3 c3 w3 ho3 hg3 hh3
          have hE := wr_end HR2.out HS2.out HI2.out ho3 hg3 hh3
          have y1 := hE.1.cell (j := 1) rfl
          have z1 := hE.1.frozen 1
          have HE := hid hE
          clear ho3 hg3 hh3 hE)
        go_ret
        rw [E9.out]
        exact ⟨rfl, HE.out.2.1, L2.out.trans HE.out.2.2⟩
      | false =>
        have e2 : writeD D i s = (spendD D, 10) := by unfold writeD; rw [HNH.out, if_pos hi, hon]; rfl
        rw [e2]
        rw [hon] at HF
        clear e e2 hon hi
        go_enter Try.func21, Try.ntmps21
        go_wp2_with (go_at_call 35; (with_reducible refine HF.out.mono ?_); rintro e w2 ⟨rfl, r2, l2⟩; have R2 := hid r2; have L2 := hid l2; clear r2 l2)
        go_ret
        exact ⟨rfl, R2.out, L2.out⟩
    · have e : writeR D i s = (D, 1) := by unfold writeR; rw [HNH.out, if_pos hi, if_neg h128]
      rw [e]
      have d3 : ((s.length : Int) != 128) = true := by rw [bne_iff_ne]; omega
      have d3' : (s.length != 128) = true := by rw [bne_iff_ne]; exact h128
      have d3'' : ((str s).size != 128) = true := d3'
      clear hi e hsz h128
      go_enter Try.func21, Try.ntmps21
      go_wp2
      go_ret
      exact ⟨rfl, H0.out, RLets.refl _ _⟩
  · have e : writeR D i s = (D, 4) := by unfold writeR; rw [HNH.out, if_neg hi]
    rw [e]
    by_cases h0 : i < 0
    · have d1 : decide (i < 0) = true := by simpa using h0
      clear hi e hsz
      go_enter Try.func21, Try.ntmps21
      go_wp2
      go_ret
      exact ⟨rfl, H0.out, RLets.refl _ _⟩
    · have d1 : decide (i < 0) = false := by simpa using h0
      have d2 : decide ((nh : Int) ≤ i) = true := by simp; omega
      clear hi e hsz
      go_enter Try.func21, Try.ntmps21
      go_wp2
      go_ret
      exact ⟨rfl, H0.out, RLets.refl _ _⟩
end Go.Proofs.Ytkadehdbnkinlaa
