/-
  The disk and the document's, side by side: what each call leaves. A part of the proof: see the head of the text that ends in 'Law'.
-/
import Derived.Test.YtkadehdbnkinlaaDk31
import Derived.Test.YtkadehdbnkinlaaDk23
namespace Go.Proofs.Ytkadehdbnkinlaa
open Go.RowKit
set_option linter.unusedVariables false
attribute [local go_sem] Oper.semAt_some

/-- The disk, the document's, and the act's own box. -/
structure Pb (w0 W : World) (d hb m bx : Nat) (D R : Dsk) (bc : List Value) : Prop where
  st : St w0 W d hb D
  rs : RSt w0 W m R
  box : OwnE W bx 30 bc
theorem Pb.below {w0 W w' : World} {d hb m bx : Nat} {D R : Dsk} {bc : List Value} (h : Pb w0 W d hb m bx D R bc) (hb' : Below W.heap.size W w') : Pb w0 w' d hb m bx D R bc := ⟨h.st.below hb', h.rs.below hb', h.box.below hb'⟩
theorem OwnE.lets2 {w0 d hb : _} {D : Dsk} {W w' : World} {g : Nat} {T : TypeId} {xs : List Value} (h : OwnE W g T xs) (hs : St w0 W d hb D) (hL : Lets d hb W w') (h1 : T ≠ 61) (h2 : T ≠ 64) (h3 : T ≠ 66) : OwnE w' g T xs := by
  obtain ⟨V, hV⟩ := hs.at_
  exact h.lets hL (h.type_ne hV.cells h1) (h.type_ne hV.sect h2) h3
theorem Pb.lets {w0 W w' : World} {d hb m bx : Nat} {D D' R : Dsk} {bc : List Value} (h : Pb w0 W d hb m bx D R bc) (hs : St w0 w' d hb D') (hL : Lets d hb W w') : Pb w0 w' d hb m bx D' R bc :=
  ⟨hs, h.rs.lets h.st hL, h.box.lets2 h.st hL (by decide) (by decide) (by decide)⟩
theorem Pb.rlets {w0 W w' : World} {d hb m bx : Nat} {D R R' : Dsk} {bc : List Value} (h : Pb w0 W d hb m bx D R bc) (hr : RSt w0 w' m R') (hL : RLets w0 W w') : Pb w0 w' d hb m bx D R' bc :=
  ⟨h.st.rlets hL, hr, h.box.rlets hL (by decide) (by decide) (by decide)⟩
/-- What a word of either one leaves of a row of octets. -/
theorem OwnC.lets {w0 d hb : _} {D : Dsk} {W w' : World} {g : Nat} {xs : List Value} (h : OwnC W g 5 xs) (hs : St w0 W d hb D) (hL : Lets d hb W w') : OwnC w' g 5 xs := by
  obtain ⟨cur, hg, hc⟩ := h
  have : OwnE W g 5 cur.toList := hg
  exact ⟨cur, this.lets2 hs hL (by decide) (by decide) (by decide), hc⟩
theorem OwnC.rlets {w0 W w' : World} {g : Nat} {xs : List Value} (h : OwnC W g 5 xs) (hL : RLets w0 W w') : OwnC w' g 5 xs := by
  obtain ⟨cur, hg, hc⟩ := h
  exact ⟨cur, hL.block _ _ _ _ (by decide) (by decide) (by decide) hg, hc⟩
theorem RSt.room {w0 W : World} {m : Nat} {R D : Dsk} (h : RSt w0 W m R) (h1 : D.has = R.has) (h2 : D.waits = R.waits) (h3 : D.bud = R.bud) (h4 : D.off = R.off) : RSt w0 W m D := by
  obtain ⟨VH, VL, k⟩ := h
  refine ⟨VH, VL, k.m0, ?_, ?_, ?_, ?_, ?_, ?_⟩
  · rw [h3, h4]; exact k.cells
  · rw [h1]; exact k.hs
  · rw [h2]; exact k.ls
  · rw [h1, h2]; exact k.wl
  · rw [h1]; exact k.nb
  · rw [h3]; exact k.bd
theorem writeR_len (D : Dsk) (i : Int) (s : List UInt8) : (writeR D i s).1.has.length = D.has.length ∧ (writeR D i s).1.waits.length ≤ D.waits.length + 1 := by
  have e := spend_has D
  unfold writeR writeD
  split
  · split
    · split
      · exact ⟨by show (spendD D).has.length = _; rw [e.1], by show (D.waits ++ [(i, s)]).length ≤ _; simp⟩
      · exact ⟨by show (spendD D).has.length = _; rw [e.1], by show (spendD D).waits.length ≤ _; rw [e.2]; omega⟩
    · exact ⟨rfl, by show D.waits.length ≤ _; omega⟩
  · exact ⟨rfl, by show D.waits.length ≤ _; omega⟩
theorem flushD_len (D : Dsk) : (flushD D).1.has.length = D.has.length ∧ (flushD D).1.waits.length ≤ D.waits.length := by
  have e := spend_has D
  unfold flushD
  split
  · exact ⟨by show (doneK _ _ _ _).length = _; rw [doneK_len], by show 0 ≤ _; omega⟩
  · exact ⟨by show (spendD D).has.length = _; rw [e.1], by show (spendD D).waits.length ≤ _; rw [e.2]; omega⟩
theorem oct_nil (W : World) : Oct W none 0 [] := ⟨rfl, fun h => absurd rfl h⟩
/-- Read. -/
theorem read_pb {w0 W : World} {d hb m bx : Nat} {D R : Dsk} {bc : List Value} (h : Pb w0 W d hb m bx D R bc) (i : Int) (hw : D.waits.length ≤ 100000) :
    Calls Try.prog 11 #[.pointer (some ⟨d, 0, none⟩), .int .i64 i] W fun e w' => ∃ A n c, e = .returned (.tuple #[.slice A n c, .int .i64 ((readR D i).2 : Int)]) ∧ Oct w' A n (readR D i).1 ∧ Pb w0 w' d hb m bx D R bc ∧ Below W.heap.size W w' := by
  obtain ⟨V, hV⟩ := h.st.at_
  by_cases hi : 0 ≤ i ∧ i < D.has.length
  · by_cases ho : D.off = true
    · rw [show readR D i = ([], 10) by unfold readR; rw [if_pos hi, if_pos ho]]
      refine (read_off hV i hi ho).mono ?_
      rintro e w' ⟨rfl, hb'⟩
      exact ⟨none, 0, 0, rfl, oct_nil _, h.below hb', hb'⟩
    · obtain ⟨k, rfl⟩ : ∃ k : Nat, i = (k : Int) := ⟨i.toNat, by omega⟩
      have hk : k < D.has.length := by omega
      rw [show readR D (k : Int) = (readD D k, 0) by unfold readR; rw [if_pos hi, if_neg ho]; rfl]
      refine (read_st h.st k hk (by simpa using ho) hw).mono ?_
      rintro e w' ⟨g, rfl, h1, h2, h3, h4⟩
      exact ⟨some ⟨g, 0, none⟩, 128, 128, rfl, ⟨readD_len h.st k hk, h1.row⟩, h.below h4, h4⟩
  · rw [show readR D i = ([], 4) by unfold readR; rw [if_neg hi]]
    refine (read_no hV i hi).mono ?_
    rintro e w' ⟨rfl, hb'⟩
    exact ⟨none, 0, 0, rfl, oct_nil _, h.below hb', hb'⟩
/-- Has. -/
def hasR (D : Dsk) (i : Int) : List UInt8 × Nat := if 0 ≤ i ∧ i < D.has.length then (D.has.getD i.toNat [], 0) else ([], 4)
theorem has_pb {w0 W : World} {d hb : Nat} {D : Dsk} (h : St w0 W d hb D) (i : Int) :
    Calls Try.prog 25 #[.pointer (some ⟨d, 0, none⟩), .int .i64 i] W fun e w' => ∃ A n c, e = .returned (.tuple #[.slice A n c, .int .i64 ((hasR D i).2 : Int)]) ∧ Oct w' A n (hasR D i).1 ∧ n = (hasR D i).1.length ∧ Below W.heap.size W w' := by
  obtain ⟨V, hV⟩ := h.at_
  by_cases hi : 0 ≤ i ∧ i < D.has.length
  · obtain ⟨k, rfl⟩ : ∃ k : Nat, i = (k : Int) := ⟨i.toNat, by omega⟩
    have hk : k < D.has.length := by omega
    have hl : (D.has.getD k []).length = 128 := by
      rw [List.getD_eq_getElem?_getD, List.getElem?_eq_getElem hk, Option.getD_some]
      exact hV.len _ (List.getElem_mem hk)
    rw [show hasR D (k : Int) = (D.has.getD k [], 0) by unfold hasR; rw [if_pos hi]; rfl]
    refine (has_st h k hk).mono ?_
    rintro e w' ⟨g, rfl, h1, h2, h3, h4⟩
    exact ⟨some ⟨g, 0, none⟩, 128, 128, rfl, ⟨hl, h1.row⟩, hl.symm, h4⟩
  · rw [show hasR D i = ([], 4) by unfold hasR; rw [if_neg hi]]
    refine (has_no hV i hi).mono ?_
    rintro e w' ⟨rfl, rfl⟩
    exact ⟨none, 0, 0, rfl, oct_nil _, rfl, Below.refl _ _⟩
/-- Write, of whatever length. -/
theorem write_pb {w0 W : World} {d hb m bx : Nat} {D R : Dsk} {bc : List Value} (h : Pb w0 W d hb m bx D R bc) (i : Int) (g : Nat) (s : List UInt8) (k : Nat) (hk : s.length = k) (hr : OwnC W g 5 (s.map B8)) (hw : D.waits.length ≤ 100000) :
    Calls Try.prog 8 #[.pointer (some ⟨d, 0, none⟩), .int .i64 i, .slice (some ⟨g, 0, none⟩) k 128] W fun e w' => e = .returned (.int .i64 ((writeR D i s).2 : Int)) ∧ Pb w0 w' d hb m bx (writeR D i s).1 R bc ∧ (∀ xs, OwnC W g 5 xs → OwnC w' g 5 xs) := by
  obtain ⟨V, hV⟩ := h.st.at_
  by_cases hi : 0 ≤ i ∧ i < D.has.length
  · by_cases h8 : s.length = 128
    · obtain rfl : 128 = k := by omega
      rw [show writeR D i s = writeD D i s by unfold writeR; rw [if_pos hi, if_pos h8]]
      refine (write_st h.st i g s h8 hr hw).mono ?_
      rintro e w' ⟨rfl, h1, h2⟩
      exact ⟨rfl, h.lets h1 h2, fun xs hx => hx.lets h.st h2⟩
    · rw [show writeR D i s = (D, 1) by unfold writeR; rw [if_pos hi, if_neg h8]]
      refine (write_short hV i hi _ _ _ (by omega)).mono ?_
      rintro e w' ⟨rfl, rfl⟩
      exact ⟨rfl, h, fun xs hx => hx⟩
  · rw [show writeR D i s = (D, 4) by unfold writeR; rw [if_neg hi]]
    refine (write_no hV i hi _ _ _).mono ?_
    rintro e w' ⟨rfl, rfl⟩
    exact ⟨rfl, h, fun xs hx => hx⟩
theorem rwrite_pb {w0 W : World} {d hb m bx : Nat} {D R : Dsk} {bc : List Value} (h : Pb w0 W d hb m bx D R bc) (i : Int) (s : List UInt8) (hw : R.waits.length ≤ 100000) :
    Calls Try.prog 21 #[.pointer (some ⟨m, 0, none⟩), .int .i64 i, SV s] W fun e w' => e = .returned (.int .i64 ((writeR R i s).2 : Int)) ∧ Pb w0 w' d hb m bx D (writeR R i s).1 bc ∧ (∀ g xs, OwnC W g 5 xs → OwnC w' g 5 xs) := by
  refine (rwrite_any h.rs h.st.bel.size i s hw).mono ?_
  rintro e w' ⟨rfl, h1, h2⟩
  exact ⟨rfl, h.rlets h1 h2, fun g xs hx => hx.rlets h2⟩
theorem flush_pb {w0 W : World} {d hb m bx : Nat} {D R : Dsk} {bc : List Value} (h : Pb w0 W d hb m bx D R bc) (hw : D.waits.length ≤ 100000) :
    Calls Try.prog 10 #[.pointer (some ⟨d, 0, none⟩)] W fun e w' => e = .returned (.int .i64 ((flushD D).2 : Int)) ∧ Pb w0 w' d hb m bx (flushD D).1 R bc := by
  refine (flush_st h.st hw).mono ?_
  rintro e w' ⟨rfl, h1, h2⟩
  exact ⟨rfl, h.lets h1 h2⟩
theorem rflush_pb {w0 W : World} {d hb m bx : Nat} {D R : Dsk} {bc : List Value} (h : Pb w0 W d hb m bx D R bc) (hw : R.waits.length ≤ 100000) :
    Calls Try.prog 22 #[.pointer (some ⟨m, 0, none⟩)] W fun e w' => e = .returned (.int .i64 ((flushD R).2 : Int)) ∧ Pb w0 w' d hb m bx D (flushD R).1 bc := by
  refine (rflush_any h.rs h.st.bel.size hw).mono ?_
  rintro e w' ⟨rfl, h1, h2⟩
  exact ⟨rfl, h.rlets h1 h2⟩
theorem budget_pb {w0 W : World} {d hb m bx : Nat} {D R : Dsk} {bc : List Value} (h : Pb w0 W d hb m bx D R bc) (n : Int) (hn : -1 ≤ n) (hn2 : n ≤ 9223372036854775807) :
    Calls Try.prog 15 #[.pointer (some ⟨d, 0, none⟩), .int .i64 n] W fun e w' => e = .returned (.int .i64 0) ∧ Pb w0 w' d hb m bx { D with bud := n } R bc := by
  refine (budget_st h.st n hn hn2).mono ?_
  rintro e w' ⟨rfl, h1, h2⟩
  exact ⟨rfl, h.lets h1 h2⟩
theorem cut_pb {w0 W : World} {d hb m bx : Nat} {D R : Dsk} {bc : List Value} (h : Pb w0 W d hb m bx D R bc) (hw : D.waits.length ≤ 100000) (KA : Option Addr) (kn kc : Nat) (ks : List Bool) (hn : ks.length = kn) (hr : Row w0 KA (ks.map boolV)) :
    Calls Try.prog 12 #[.pointer (some ⟨d, 0, none⟩), .slice KA kn kc] W fun e w' => e = .returned (.tuple #[]) ∧ Pb w0 w' d hb m bx (cutD D ks) R bc := by
  refine (cut_arg h.st hw KA kn kc ks hn hr).mono ?_
  rintro e w' ⟨rfl, h1, h2⟩
  exact ⟨rfl, h.lets h1 h2⟩
theorem rcut_pb {w0 W : World} {d hb m bx : Nat} {D R : Dsk} {bc : List Value} (h : Pb w0 W d hb m bx D R bc) (hw : R.waits.length ≤ 100000) (KA : Option Addr) (kn kc : Nat) (ks : List Bool) (hn : ks.length = kn) (hr : Row w0 KA (ks.map boolV)) :
    Calls Try.prog 23 #[.pointer (some ⟨m, 0, none⟩), .slice KA kn kc] W fun e w' => e = .returned (.tuple #[]) ∧ Pb w0 w' d hb m bx D (cutD R ks) bc := by
  refine (rcut_any h.rs h.st.bel hw KA kn kc ks hn hr).mono ?_
  rintro e w' ⟨rfl, h1, h2⟩
  exact ⟨rfl, h.rlets h1 h2⟩
theorem on_pb {w0 W : World} {d hb m bx : Nat} {D R : Dsk} {bc : List Value} (h : Pb w0 W d hb m bx D R bc) :
    Calls Try.prog 13 #[.pointer (some ⟨d, 0, none⟩)] W fun e w' => e = .returned (.tuple #[]) ∧ Pb w0 w' d hb m bx (onD' D) R bc := by
  refine (on_st h.st).mono ?_
  rintro e w' ⟨rfl, h1, h2⟩
  exact ⟨rfl, h.lets h1 h2⟩
theorem ron_pb {w0 W : World} {d hb m bx : Nat} {D R : Dsk} {bc : List Value} (h : Pb w0 W d hb m bx D R bc) :
    Calls Try.prog 24 #[.pointer (some ⟨m, 0, none⟩)] W fun e w' => e = .returned (.tuple #[]) ∧ Pb w0 w' d hb m bx D (onD' R) bc := by
  refine (ron_any h.rs h.st.bel.size).mono ?_
  rintro e w' ⟨rfl, h1, h2⟩
  exact ⟨rfl, h.rlets h1 h2⟩
end Go.Proofs.Ytkadehdbnkinlaa
