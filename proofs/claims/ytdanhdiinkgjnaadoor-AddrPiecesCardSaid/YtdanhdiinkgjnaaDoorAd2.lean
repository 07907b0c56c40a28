/-
  strings.Builder: what is written, and read. A part of the proof: see the head of the text that ends in 'Law'.
-/
import Derived.Test.YtdanhdiinkgjnaaDoorAd1
import Derived.Lib.Builder
import Derived.Laws.Externs
namespace Go.Proofs.YtdanhdiinkgjnaaDoor
open Go.RowKit
set_option linter.unusedVariables false
attribute [local go_sem] Oper.semAt_some

/-- A builder at b, made behind B, that holds l. -/
def BldAt (B b : Nat) (l : List UInt8) (w : World) : Prop := Lib.IsBuilder 51 5 B b (l.map B8) w
theorem bld_size : (Tryd.prog.info? 51).map (·.size) = some 2 := by kernel_rfl
theorem bld_lies : liesAt Tryd.prog Tryd.prog.depth 51 (2 / Tryd.prog.cellsOf 51) 0 51 1 = true := by kernel_rfl
set_option maxRecDepth 100000 in
theorem copyCheck_any (B b : Nat) (bs : List Value) (w : World) (h : Lib.IsBuilder 51 5 B b bs w) :
    Calls Tryd.prog 32 #[.pointer (some ⟨b, 0, none⟩)] w fun e w' => e = .returned (.tuple #[]) ∧ Lib.BuilderAt 51 5 B b (.pointer (some ⟨b, 0, none⟩)) bs w' ∧ Below B w w' := by
  obtain ⟨j, hj, hjs⟩ := Option.map_eq_some_iff.1 bld_size
  rcases h with h | h
  · have x0 := h.cell0
    have f0 := h.frozen0
    have hsh := h.shape
    have q1 := Lib.run_to_unsafe (P := Tryd.prog) w ⟨b, 0, none⟩ Tryd.underlying49 Tryd.underlying67 hj (by rw [hjs]; decide) hsh (Nat.zero_lt_succ 1)
    have q2 := Lib.run_from_unsafe (P := Tryd.prog) w ⟨b, 0, none⟩ Tryd.underlying67 Tryd.underlying49 hj hsh bld_lies
    have H := hid h
    clear h hj hjs hsh
    go_enter Tryd.func32, Tryd.ntmps32
    go_wp2
    rw [run_callFunc_extern Tryd.func40 (by kernel_rfl) (by kernel_rfl) (by kernel_rfl) (e := Extern.AbiNoEscape.same) (by kernel_rfl)]
    rw [Lib.run_noEscape]
    simp only [Result.andThen]
    rw [Oper.upon_value]
    go_wp2
    go_end0
    exact ⟨rfl, H.out.used _, (Below.refl B w).setCell (p := ⟨b, 0, none⟩) H.out.1 _⟩
  · have x0 := h.cell0
    have q1 := Lib.run_neq_ptr_same (P := Tryd.prog) w ⟨b, 0, none⟩ Tryd.underlying49 hj
    have H := hid h
    clear h hj hjs
    go_enter Tryd.func32, Tryd.ntmps32
    go_wp2
    go_end0
    exact ⟨rfl, H.out, Below.refl _ _⟩
theorem u8S : SliceT Tryd.prog 33 5 (.int .u8 0) 1 1 := ⟨Tryd.underlying33, by kernel_rfl, rfl, by decide⟩
theorem bld_end {B b : Nat} {l : List UInt8} {c : UInt8} {v : Value} {A : Option Addr} {c2 : Nat} {w1 w2 : World} (hB : B ≤ b) (hE : OwnE w1 b 51 [.pointer (some ⟨b, 0, none⟩), v]) (hne : v.ownBlock ≠ some b)
    (ho : w2.ownsRow B 5 1 (.slice A (l.length + 1) c2) (l.length + 1) (l.map B8 ++ [B8 c])) (hg : (w1.alloc (.cells #[B8 c] 5)).grownBy w2 v.ownBlock) :
    OwnE w2 b 51 [.pointer (some ⟨b, 0, none⟩), v] ∧ BldAt B b (l ++ [c]) (w2.setCell ⟨b, 1, none⟩ (.slice A (l.length + 1) c2)) := by
  have hE2 : OwnE w2 b 51 [.pointer (some ⟨b, 0, none⟩), v] := (hE.below ((Below.refl _ _).alloc (Nat.le_refl _) _)).grown hg hne
  have hn2 : Value.ownBlock (.slice A (l.length + 1) c2) ≠ some b := hE2.row_ne ho (by decide)
  refine ⟨hE2, .inr ⟨hB, .slice A (l.length + 1) c2, hE2.set 1 _, ?_, hn2⟩⟩
  have := row_far (i := 1) ho hn2 (.slice A (l.length + 1) c2)
  simpa using this
set_option maxRecDepth 100000 in
set_option maxHeartbeats 1000000 in
theorem write_any (B b : Nat) (l : List UInt8) (c : UInt8) (w : World) (h : BldAt B b l w) (hl : l.length ≤ 1000000) (hBw : B ≤ w.heap.size) :
    Calls Tryd.prog 28 #[.pointer (some ⟨b, 0, none⟩), B8 c] w fun e w' => e = .returned .nilIface ∧ BldAt B b (l ++ [c]) w' ∧ Below B w w' := by
  have HC := hid (copyCheck_any B b _ w h)
  have HL := hid hl
  have HB := hid hBw
  clear h hl hBw
  unfold B8
  go_enter Tryd.func28, Tryd.ntmps28
  go_wp2_with (first
    | (go_at_call 32
       refine HC.out.mono ?_
       rintro e w1 ⟨rfl, h1, b1⟩
       obtain ⟨hB, v, hb, hr, hne⟩ := h1
       have hE : OwnE w1 b 51 [.pointer (some ⟨b, 0, none⟩), v] := hb
       have hex : ∃ A1 n1 c1, v = .slice A1 n1 c1 ∧ n1 = l.length := by
         obtain ⟨A1, c1, hv, _⟩ := own_slice hr
         exact ⟨A1, _, c1, hv, List.length_map ..⟩
       obtain ⟨A1, n1, c1, hv, hn1⟩ := hex
       subst hv
       rw [List.length_map] at hr
       have x1 := hE.cell (j := 1) rfl
       have HE := hid hE
       have HR := hid hr
       have HNE := hid hne
       have HBB := hid hB
       have B1 := hid b1
       have HN1 := hid hn1
       clear hb hr hne hB b1 hE hn1)
    | (refine wpList_append_row _ rfl (.tmp 11) (.tmp 13) u8S rfl B (.slice A1 n1 c1) l.length (l.map B8) rfl (own_alloc HR.out _) (some ⟨w1.heap.size, 0, none⟩) 1 1 [B8 c] rfl rfl (Row.of_block (heap_alloc_new w1 _)) (by simp [B8, Value.oneCell']) (by have := HL.out; simp only [maxLen]; omega) (by have := HL.out; omega) (by have := HB.out; have := B1.out.size; simp; omega) ?_
       intro A2 c2 w2 ho2 hg2 hh2
       have hend := bld_end HBB.out HE.out HNE.out ho2 hg2
       have y1 := hend.1.cell (j := 1) rfl
       have f1 := hend.1.frozen 1
       have HX := hid hend.2
       have hb2 : Below B w w2 := (B1.out.alloc (by have := HB.out; have := B1.out.size; omega) _).grown hg2 (by have := HB.out; have := B1.out.size; simp; omega) (fun k hk => own_base HR.out k hk)
       have HB2 := hid (hb2.setCell (p := ⟨b, 1, none⟩) HBB.out (.slice A2 (l.length + 1) c2))
       clear hend ho2 hg2 hh2 hb2))
  go_ret
  exact ⟨rfl, HX.out, HB2.out⟩
theorem string_any (B b : Nat) (l : List UInt8) (w : World) (h : BldAt B b l w) (hBw : B ≤ w.heap.size) :
    Calls Tryd.prog 29 #[.pointer (some ⟨b, 0, none⟩)] w fun e w' => e = .returned (.string (str l)) ∧ Below B w w' := Tryd.Builder_String_any B b l w h hBw
/-- A fresh one. -/
theorem bld_new (w : World) : BldAt w.heap.size w.heap.size [] (w.alloc (.cells #[.pointer none, .slice none 0 0] 51)) :=
  .inl ⟨Nat.le_refl _, .slice none 0 0, heap_alloc_new w _, World.ownsRow_nil _ _ _ _, by simp [Value.ownBlock]⟩
end Go.Proofs.YtdanhdiinkgjnaaDoor
