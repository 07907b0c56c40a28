/-
  The maker of the iterator over the free pages; the library's AppendSeq and Collect over it; Free. A part of the proof: see the head of the text that ends in 'Law'.
-/
import Derived.RangeFuncNested
import Derived.RangeFuncBound
import Derived.RangeFuncCalls
import Derived.RangeFuncLeaves
import Derived.RangeFuncBox
import Derived.Shelf.Abstract
import Derived.OwnWalkIn
import Derived.TacticsInMore
import Derived.LoopNIn
import Derived.LoopIn
import Derived.Maps.AppendAt
import Derived.Test.YtccdgfacdohknaaSp14
namespace Go.Proofs.Ytccdgfacdohknaa
open Go.RowKit Go.Shelf
set_option linter.unusedVariables false
attribute [local go_sem] Oper.semAt_some

theorem kpf_t {n1 Bf : Nat} {A B C : World} (h : KpF n1 Bf A B) (k : KpF n1 Bf B C) : KpF n1 Bf A C := ⟨h.1.trans k.1, fun j => (k.2 j).trans (h.2 j)⟩
theorem kpf_b {n1 Bf : Nat} {w : World} (hn : n1 ≤ w.heap.size) (hB : Bf < w.heap.size) (W : World) (l : Nat) (o o' : Obj) (hl : w.heap.size ≤ l) (h : W.heap[l]? = some o) (_ : o.isCells = false) (_ : o.isWalk = false) : KpF n1 Bf W (W.putObj l o') :=
  ⟨belowK_b hn W l o o' hl h (by assumption) (by assumption), fun j => by
    have e := World.putObj_heap_other (w := W) (r := l) (k := Bf) (o := o') (by omega)
    simp only [World.cell?, e]⟩
theorem kpf_of {n1 Bf : Nat} {W W' : World} (h : Below n1 W W') (hb : W'.heap[Bf]? = W.heap[Bf]?) : KpF n1 Bf W W' := ⟨h, fun j => by simp only [World.cell?, hb]⟩

/-- The iterator stops well. -/
theorem free_stops (m : Nat) (hm : 1 ≤ m) (Bf : Nat) (l : List Bool) (A : Option Addr) (n c : Nat) (w : World) (ho : Oct w A n (packL l)) (hl : l.length ≤ 2048) (w0 : World) (hb : Below w.heap.size w w0)
    (h0 : w0.cell? ⟨Bf, 0, none⟩ = some (.int .i64 l.length)) (h1 : w0.cell? ⟨Bf, 1, none⟩ = some (.slice A n c)) (hB : Bf < w0.heap.size) :
    SeqStopsK Fence.wide m Try.prog 30 #[.pointer (some ⟨Bf, 0, none⟩)] (fun x : Nat => #[I8 x]) (KpF w.heap.size Bf) (fun ys => ys = freeL l l.length) (fun pre => pre <+: freeL l l.length) (freeL l l.length).length w0 := fun lp J Jx W hW hJ _ hY h00 =>
  free1_in m hm lp Bf l A n c w ho hl J Jx W.heap.size hJ hY W (hb.trans (hW.mono hb.size)) ((hW.cell (p := ⟨Bf, 0, none⟩) hB).trans h0) ((hW.cell (p := ⟨Bf, 1, none⟩) hB).trans h1) h00

set_option maxHeartbeats 1000000 in
theorem free_any (N : Int) (A : Option Addr) (n c : Nat) (w : World) :
    Calls Try.prog 23 #[.agg #[.int .i64 N, .slice A n c]] w fun e w' => e = .returned (.func (.func 30) #[] #[.pointer (some ⟨w.heap.size, 0, none⟩)]) ∧ w' = w.alloc (.cells #[.int .i64 N, .slice A n c] 24) := by
  go_enter Try.func23, Try.ntmps23
  go_wp2
  go_ret
  exact ⟨rfl, rfl⟩

set_option maxRecDepth 100000 in
set_option maxHeartbeats 2000000 in
theorem appendSeq_in (m : Nat) (hm : 3 ≤ m) (Bf : Nat) (l : List Bool) (A : Option Addr) (n c : Nat) (w : World) (ho : Oct w A n (packL l)) (hl : l.length ≤ 2048) (w0 : World) (hb : Below w.heap.size w w0)
    (h0 : w0.cell? ⟨Bf, 0, none⟩ = some (.int .i64 l.length)) (h1 : w0.cell? ⟨Bf, 1, none⟩ = some (.slice A n c)) (hB : Bf < w0.heap.size) :
    CallsIn Fence.wide m Try.prog 32 #[.slice none 0 0, .func (.func 30) #[] #[.pointer (some ⟨Bf, 0, none⟩)]] w0 fun e W' => ∃ v, e = .returned v ∧
      W'.ownsRow w0.heap.size 3 1 v (freeL l l.length).length ((freeL l l.length).map I8) ∧ (v = .slice none 0 0 ↔ freeL l l.length = []) ∧ Below w0.heap.size w0 W' := by
  have hm1 : 1 ≤ m := by omega
  obtain ⟨i0, hi, hz0, hz1, hz2⟩ := info_parts intsT.info
  have hN : (freeL l l.length).length ≤ 2048 := Nat.le_trans (freeL_len l l.length) hl
  refine callsIn_of_wp_marks Try.func32 rfl trivial ?_ rfl
  simp only [Try.ntmps32, List.size_toArray, List.length_cons, List.length_nil, Nat.reduceAdd, Nat.reduceSub, Array.replicate_succ, Array.replicate_zero, List.push_toArray, List.append_toArray, List.nil_append, List.cons_append]
  gi_wp2
  have bO := Boxed.new w0 25 (.slice none 0 0)
  have hB0 : Below w0.heap.size w0 (w0.alloc (.cells #[.slice none 0 0] 25)) := (Below.refl _ w0).alloc (Nat.le_refl _) _
  refine wpIn_rangeFunc_ownG rfl hm1 (gf := 30) (lb := #[.pointer (some ⟨Bf, 0, none⟩)]) rfl trivial (enters_of Try.func30 (by kernel_rfl) rfl)
    (free_stops (m - 1) (by omega) Bf l A n c w ho hl _ (hb.trans (hB0.mono hb.size)) ((hB0.cell (p := ⟨Bf, 0, none⟩) hB).trans h0) ((hB0.cell (p := ⟨Bf, 1, none⟩) hB).trans h1) (by simp; omega)) kpf_t (kpf_b (by have := hb.size; simp; omega) (by simp; omega)) (Below.refl _ _) (fun _ => rfl)
    (fun pre W => (∃ v, Boxed W w0.heap.size 25 v ∧ W.ownsRow w0.heap.size 3 1 v pre.length (pre.map I8) ∧ (v = .slice none 0 0 ↔ pre = [])) ∧ Below w0.heap.size w0 W)
    (fun _ _ _ => False)
    (OwnFrom.and (Own.from (holdsRow_own w0.heap.size w0.heap.size 25 3 1 (fun pre => pre.length) (fun pre => pre.map I8) (fun pre v => v = .slice none 0 0 ↔ pre = [])) _) (ownFrom_below (Nat.le_refl _) (by simp)))
    (fun _ _ _ _ _ hs _ _ => hs)
    ⟨⟨_, bO, World.ownsRow_nil _ _ _ _, by simp⟩, hB0⟩
    (fun x => { tmps := #[.slice none 0 0, .func (.func 30) #[] #[.pointer (some ⟨Bf, 0, none⟩)], .pointer (some ⟨w0.heap.size, 0, none⟩), undef, .slice none 0 0, I8 x, .func (.func 30) #[] #[.pointer (some ⟨Bf, 0, none⟩)], I8 x, undef, undef, undef, undef, undef], defers := [] }) ?assign ?body ?done ?stop
  case assign =>
    intro l x W K hK
    dsimp only [I8] at hK ⊢
    gi_wp2
    exact hK
  case body =>
    rintro lq pre x W ⟨⟨v, hv, hrow, hnil⟩, hBW⟩ hlt
    have hc := hv.cell
    have hml : 4096 ≤ maxLen := by decide
    dsimp only [I8]
    gi_wp2_with (gi_at_builtin; refine wpListIn_append_own _ rfl _ _ 25 rfl w0.heap.size 3 i0 (.int .i64 0) 1 8 Try.underlying25 hi hz0 hz1 hz2 rfl (by decide) _ _ _ rfl (hrow.alloc _) ⟨W.heap.size, 0, none⟩ 1 1 [.int .i64 x] rfl rfl (cell_one_new _ _ _) (by simp [Value.oneCell']) (by omega) (by omega) (by have := hBW.size; simp; omega) ?_; intro v' w1 hown' hgrow _; obtain ⟨g', cap', rfl⟩ := ownsRow_succ hown'; obtain ⟨hv1, hv2, hr2, hk2, hb2⟩ := hv.appended (by decide) hrow hBW.size (Nat.le_refl _) hown' hgrow; have hc1 := hv1.cell; have hf1 := hv1.frozen)
    refine ⟨hk2.from _, kpf_of (hb2.mono hb.size) (hb2.block Bf hB), ⟨_, hv2, by rw [List.map_append]; simpa [I8] using hr2, by simp⟩, hBW.trans hb2⟩
  case done =>
    rintro D ys W hD rfl ⟨⟨v, hv, hrow, hnil⟩, hBW⟩ hK
    have hc := hv.cell
    gi_wp2
    refine ⟨by simp, .inl ⟨_, _, rfl, run_takeDeferred hK, ?_⟩⟩
    exact ⟨_, results_tmp rfl _ _ _, v, rfl, ownsRow_putObj hrow _ hK rfl, hnil, hBW.trans (belowK_b (w := w0) (Nat.le_refl _) W D _ _ (by simp at hD; omega) hK rfl rfl)⟩
  case stop =>
    rintro D c pre W _ _ h _
    exact h.elim
end Go.Proofs.Ytccdgfacdohknaa
