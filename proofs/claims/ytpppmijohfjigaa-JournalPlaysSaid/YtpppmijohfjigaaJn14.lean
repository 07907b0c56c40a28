/-
  The document's Format, home and Commit. A part of the proof: see the head of the text that ends in 'Law'.
-/
import Derived.Test.YtpppmijohfjigaaJn13
namespace Go.Proofs.Ytpppmijohfjigaa
open Go.RowKit
set_option linter.unusedVariables false
set_option maxRecDepth 100000
attribute [local go_sem] Oper.semAt_some

/-- Cells in a block of this type. -/
def CellsT (T : TypeId) (W : World) (A : Option Addr) (xs : List Value) : Prop :=
  xs ≠ [] → ∃ g off cur fr, A = some ⟨g, off, none⟩ ∧ W.heap[g]? = some (.cells cur T fr) ∧ ∀ j u, xs[j]? = some u → cur[off + j]? = some u
theorem CellsT.row {T : TypeId} {W : World} {A : Option Addr} {xs : List Value} (h : CellsT T W A xs) : Row W A xs := fun hne => by
  obtain ⟨g, off, cur, fr, hA, hg, hc⟩ := h hne
  exact ⟨g, off, hA, fun j v hv => by rw [cell_of_row W g (off + j) cur T fr hg]; exact hc j v hv⟩
theorem CellsT.keep {T : TypeId} {W W' : World} {A : Option Addr} {xs : List Value} (h : CellsT T W A xs) (hk : ∀ (g : Nat) (cur : Array Value) (fr : Nat × Nat), W.heap[g]? = some (.cells cur T fr) → W'.heap[g]? = some (.cells cur T fr)) : CellsT T W' A xs := fun hne => by
  obtain ⟨g, off, cur, fr, hA, hg, hc⟩ := h hne
  exact ⟨g, off, cur, fr, hA, hk g cur fr hg, hc⟩
theorem CellsT.below {T : TypeId} {W W' : World} {A : Option Addr} {xs : List Value} (h : CellsT T W A xs) (hb : Below W.heap.size W W') : CellsT T W' A xs := h.keep fun g cur fr hg => (hb.block g (lt_of_heap hg)).trans hg
theorem CellsT.rlets {T : TypeId} {w0 W W' : World} {A : Option Addr} {xs : List Value} (h : CellsT T W A xs) (hL : RLets w0 W W') (h1 : T ≠ 65) (h2 : T ≠ 9) (h3 : T ≠ 113) : CellsT T W' A xs := h.keep fun g cur fr hg => hL.block g cur T fr h1 h2 h3 hg
theorem lets_block {w0 W W' : World} {d hb : Nat} {D : Dsk} {T : TypeId} (hS : St w0 W d hb D) (hL : Lets d hb W W') (h1 : T ≠ 94) (h2 : T ≠ 99) (h3 : T ≠ 101) (g : Nat) (cur : Array Value) (fr : Nat × Nat) (hg : W.heap[g]? = some (.cells cur T fr)) : g ≠ d ∧ g ≠ hb ∧ W'.heap[g]? = some (.cells cur T fr) := by
  obtain ⟨V, hV⟩ := hS.at_
  have hgd : g ≠ d := by
    rintro rfl
    rw [show W.heap[g]? = _ from hV.cells] at hg
    injection hg with hg
    injection hg with _ hg
    exact h1 hg.symm
  have hgh : g ≠ hb := by
    rintro rfl
    rw [show W.heap[g]? = _ from hV.sect] at hg
    injection hg with hg
    injection hg with _ hg
    exact h2 hg.symm
  exact ⟨hgd, hgh, hL.block g cur T fr hgd hgh h3 hg⟩
theorem CellsT.lets {T : TypeId} {w0 W W' : World} {d hb : Nat} {D : Dsk} {A : Option Addr} {xs : List Value} (h : CellsT T W A xs) (hS : St w0 W d hb D) (hL : Lets d hb W W') (h1 : T ≠ 94) (h2 : T ≠ 99) (h3 : T ≠ 101) : CellsT T W' A xs := h.keep fun g cur fr hg => (lets_block hS hL h1 h2 h3 g cur fr hg).2.2
theorem CellsT.of_own {W : World} {b0 size n c : Nat} {T : TypeId} {A : Option Addr} {xs : List Value} (h : W.ownsRow b0 T size (.slice A n c) n xs) : CellsT T W A xs := fun hne => by
  rcases h.2 with ⟨e, h0⟩ | ⟨g, cap, cur, e, _, hg, _, _, hs, ht⟩
  · have := h.1
    rw [h0, Nat.zero_mul] at this
    exact absurd (List.eq_nil_of_length_eq_zero this) hne
  · injection e with e1 _ _
    subst e1
    refine ⟨g, 0, cur, (0, 0), rfl, hg, fun j u hu => ?_⟩
    rw [Nat.zero_add]
    have hj := (List.getElem?_eq_some_iff.1 hu).1
    rw [h.1] at hj
    rw [← ht, List.getElem?_take] at hu
    rw [if_pos hj] at hu
    simpa using hu
/-- A transaction in memory of one's own. -/
structure PutsT (W : World) (A : Option Addr) (n : Nat) (vs : List PuV) : Prop where
  len : vs.length = n
  row : CellsT 47 W A (vs.flatMap puC)
  ol : ∀ v ∈ vs, v.l.length = v.n
  oc : ∀ v ∈ vs, CellsT 5 W v.A (v.l.map B8)
  i64 : ∀ v ∈ vs, W64 v.at_
  cap : ∀ v ∈ vs, v.n ≤ v.c
theorem PutsT.puts {W : World} {A : Option Addr} {n : Nat} {vs : List PuV} (h : PutsT W A n vs) : PutsIn W A n vs := ⟨h.len, h.row.row, fun v hv => ⟨h.ol v hv, (h.oc v hv).row⟩, h.i64, h.cap⟩
theorem PutsT.below {W W' : World} {A : Option Addr} {n : Nat} {vs : List PuV} (h : PutsT W A n vs) (hb : Below W.heap.size W W') : PutsT W' A n vs := ⟨h.len, h.row.below hb, h.ol, fun v hv => (h.oc v hv).below hb, h.i64, h.cap⟩
theorem PutsT.rlets {w0 W W' : World} {A : Option Addr} {n : Nat} {vs : List PuV} (h : PutsT W A n vs) (hL : RLets w0 W W') : PutsT W' A n vs := ⟨h.len, h.row.rlets hL (by decide) (by decide) (by decide), h.ol, fun v hv => (h.oc v hv).rlets hL (by decide) (by decide) (by decide), h.i64, h.cap⟩
theorem PutsT.lets {w0 W W' : World} {d hb : Nat} {D : Dsk} {A : Option Addr} {n : Nat} {vs : List PuV} (h : PutsT W A n vs) (hS : St w0 W d hb D) (hL : Lets d hb W W') : PutsT W' A n vs := ⟨h.len, h.row.lets hS hL (by decide) (by decide) (by decide), h.ol, fun v hv => (h.oc v hv).lets hS hL (by decide) (by decide) (by decide), h.i64, h.cap⟩
theorem PutsT.putsD {w0 W : World} {d hb : Nat} {D : Dsk} {A : Option Addr} {n : Nat} {vs : List PuV} (h : PutsT W A n vs) (hS : St w0 W d hb D) : PutsD d hb W A n vs := ⟨h.puts, fun v hv => ⟨h.ol v hv, fun hne => by
  obtain ⟨g, off, cur, fr, hA, hg, hc⟩ := h.oc v hv (by intro e; exact hne (List.map_eq_nil_iff.1 e))
  obtain ⟨h1, h2, -⟩ := lets_block hS (Lets.refl d hb W) (by decide) (by decide) (by decide) g cur fr hg
  exact ⟨g, off, cur, _, fr, hA, h1, h2, ⟨by decide, by decide⟩, hg, hc⟩⟩⟩
theorem writeR_D (D : Dsk) (i : Int) (s : List UInt8) (h : s.length = 128) : writeR D i s = writeD D i s := by
  unfold writeR
  rw [if_pos h]
  by_cases hi : 0 ≤ i ∧ i < D.has.length
  · rw [if_pos hi]
  · rw [if_neg hi]; unfold writeD; rw [if_neg hi]
theorem rwrite_d {w0 W : World} {m : Nat} {D : Dsk} (h : RSt w0 W m D) (hs : w0.heap.size ≤ W.heap.size) (i : Int) (s : List UInt8) (hw : D.waits.length ≤ 100000) (hl : s.length = 128) :
    Calls Try.prog 31 #[.pointer (some ⟨m, 0, none⟩), .int .i64 i, .string (str s)] W fun e w' => e = .returned (.int .i64 ((writeD D i s).2 : Int)) ∧ RSt w0 w' m (writeD D i s).1 ∧ RLets w0 W w' := by
  have := rwrite_any h hs i s hw
  rw [writeR_D D i s hl] at this
  exact this
/-- What a run leaves of the document's disk. -/
def RunR (w0 W : World) (m : Nat) (r : Dsk × Nat) (e : Ending) (w' : World) : Prop := e = .returned (.int .i64 (r.2 : Int)) ∧ RSt w0 w' m r.1 ∧ RLets w0 W w'
theorem step_wl (D : Dsk) (i : Int) (s : List UInt8) : (writeD D i s).1.waits.length ≤ D.waits.length + 1 := step_waits D (.wr i s)
theorem flush_wl (D : Dsk) : (flushD D).1.waits.length ≤ D.waits.length + 1 := step_waits D .fl
theorem RLets.sz {w0 W W' : World} (h : RLets w0 W W') : W.heap.size ≤ W'.heap.size := h.bel.size
set_option maxHeartbeats 4000000 in
theorem rformat_any {w0 W : World} {m : Nat} {D : Dsk} (h : RSt w0 W m D) (hs : w0.heap.size ≤ W.heap.size) (hw : D.waits.length ≤ 90000) :
    Calls Try.prog 29 #[.pointer (some ⟨m, 0, none⟩)] W (RunR w0 W m (runD formatS D)) := by
  have HNO := hid (show Calls Try.prog 60 #[] W (fun e w' => e = .returned (.string (str zer)) ∧ Below W.heap.size W w') from noughts_any W)
  obtain ⟨e1, he1⟩ : ∃ e1, (writeD D 0 zer).2 = e1 := ⟨_, rfl⟩
  obtain ⟨D1, hD1⟩ : ∃ D1, (writeD D 0 zer).1 = D1 := ⟨_, rfl⟩
  have HW := hid (fun (X : World) (hb : Below W.heap.size W X) => (by have := rwrite_d (h.below hb) (Nat.le_trans hs hb.size) 0 zer (by omega) zer_len; rw [he1, hD1] at this; exact this : Calls Try.prog 31 #[.pointer (some ⟨m, 0, none⟩), .int .i64 0, .string (str zer)] X fun e w' => e = .returned (.int .i64 (e1 : Int)) ∧ RSt w0 w' m D1 ∧ RLets w0 X w'))
  have hr : runD formatS D = if e1 = 0 then flushD D1 else (D1, e1) := by
    show (if (stepD D (.wr 0 zer)).2 = 0 then runD [.fl] (stepD D (.wr 0 zer)).1 else stepD D (.wr 0 zer)) = _
    show (if (writeD D 0 zer).2 = 0 then runD [.fl] (writeD D 0 zer).1 else writeD D 0 zer) = _
    by_cases h0 : e1 = 0
    · rw [if_pos (by rw [he1]; exact h0), if_pos h0, hD1]
      show (if (flushD D1).2 = 0 then ((flushD D1).1, 0) else flushD D1) = _
      split
      · rename_i hz
        rw [← hz]
      · rfl
    · rw [if_neg (by rw [he1]; exact h0), if_neg h0, ← he1, ← hD1]
  have HR := hid hr
  have hw1 : D1.waits.length ≤ 90001 := by have := step_wl D 0 zer; rw [hD1] at this; omega
  have HSZ := hid hs
  clear h hr he1 hD1
  by_cases h0 : e1 = 0
  · subst h0
    have HR2 : Hid (runD formatS D = flushD D1) := hid HR.out
    clear HR
    have HFL := hid (fun (X : World) (hr : RSt w0 X m D1) (hz : w0.heap.size ≤ X.heap.size) => rflush_any hr hz (by omega))
    go_enter Try.func29, Try.ntmps29
    go_wp2_with (first
      | (go_at_call 60; refine HNO.out.mono ?_; rintro e w1 ⟨rfl, b1⟩; have HB1 := hid b1; clear b1)
      | (go_at_call 31; refine (HW.out _ HB1.out).mono ?_; rintro e w2 ⟨rfl, k1, k2⟩; have HK1 := hid k1; have HL := hid ((RLets.of_below HB1.out HSZ.out).trans k2); clear k1 k2)
      | (go_at_call 32; refine (HFL.out _ HK1.out (Nat.le_trans HSZ.out HL.out.sz)).mono ?_; rintro e w3 ⟨rfl, k1, k2⟩; have HK3 := hid k1; have HL3 := hid (HL.out.trans k2); clear k1 k2))
    go_ret
    unfold RunR
    rw [HR2.out]
    exact ⟨rfl, HK3.out, HL3.out⟩
  · have HR2 : Hid (runD formatS D = (D1, e1)) := hid (by rw [HR.out, if_neg h0])
    have g1 : ((e1 : Int) != 0) = true := by rw [bne_iff_ne]; omega
    have g1n : (e1 != 0) = true := by rw [bne_iff_ne]; exact h0
    clear HR
    go_enter Try.func29, Try.ntmps29
    go_wp2_with (first
      | (go_at_call 60; refine HNO.out.mono ?_; rintro e w1 ⟨rfl, b1⟩; have HB1 := hid b1; clear b1)
      | (go_at_call 31; refine (HW.out _ HB1.out).mono ?_; rintro e w2 ⟨rfl, k1, k2⟩; have HK1 := hid k1; have HL := hid ((RLets.of_below HB1.out HSZ.out).trans k2); clear k1 k2))
    go_ret
    unfold RunR
    rw [HR2.out]
    exact ⟨rfl, HK1.out, HL.out⟩
end Go.Proofs.Ytpppmijohfjigaa
