/-
  The reader behind its pointer: its block, and the walks of fail, At, Err, End. A part of the proof: see the head of the text that ends in 'Law'.
-/
import Derived.Test.YtnloooakfhjggaaOctRefNum
namespace Go.Proofs.Ytnloooakfhjggaa
open Go.RowKit
set_option linter.unusedVariables false

/-- Block g is a reader over the octets l: how far, the first error, and its place. -/
def Rd (w : World) (g : Nat) (A : Option Addr) (n c : Nat) (l : List UInt8) (at_ e wh : Nat) : Prop :=
  w.heap[g]? = some (.cells #[.slice A n c, .int .i64 at_, .int .i64 e, .int .i64 wh] 64 (0, 0)) ∧ Oct w A n l ∧ n ≤ c

theorem heap_set {w : World} {g i : Nat} {cs : Array Value} {t : TypeId} (v : Value) (h : w.heap[g]? = some (.cells cs t (0, 0))) : (w.setCell ⟨g, i, none⟩ v).heap[g]? = some (.cells (cs.setIfInBounds i v) t (0, 0)) := heap_setCell_same w g i cs t v h
theorem lt_of_heap {w : World} {g : Nat} {o : Obj} (h : w.heap[g]? = some o) : g < w.heap.size := by
  rcases Nat.lt_or_ge g w.heap.size with hlt | hge
  · exact hlt
  · rw [Array.getElem?_eq_none hge] at h
    cases h
/-- Octets do not lie in a block whose cells are none. -/
theorem Oct.set_far {w : World} {g i n : Nat} {A : Option Addr} {l : List UInt8} {cs : Array Value} {t : TypeId} {fr : Nat × Nat} (v : Value) (h : Oct w A n l) (hg : w.heap[g]? = some (.cells cs t fr)) (hc : ∀ (x : UInt8) (j : Nat), cs[j]? ≠ some (B8 x)) : Oct (w.setCell ⟨g, i, none⟩ v) A n l := by
  refine ⟨h.1, fun hne => ?_⟩
  obtain ⟨b, off, hA, hcell⟩ := h.2 hne
  refine ⟨b, off, hA, fun j u hu => ?_⟩
  have h1 := hcell j u hu
  have hb : b ≠ g := by
    rintro rfl
    rw [cell_of_row w b (off + j) cs t fr hg] at h1
    rw [List.getElem?_map] at hu
    obtain ⟨x, _, rfl⟩ := Option.map_eq_some_iff.1 hu
    exact hc x _ h1
  rw [World.cell?_setCell_other _ _ _ _ (fun e => hb (by injection e with e1; exact e1.symm))]
  exact h1
theorem rd_not {A : Option Addr} {n c at_ e wh : Nat} : ∀ (x : UInt8) (j : Nat), (#[Value.slice A n c, .int .i64 at_, .int .i64 e, .int .i64 wh] : Array Value)[j]? ≠ some (B8 x) := by
  intro x j
  match j with
  | 0 => simp [B8]
  | 1 => simp [B8]
  | 2 => simp [B8]
  | 3 => simp [B8]
  | k + 4 => simp
theorem Rd.at1 {w : World} {g : Nat} {A : Option Addr} {n c : Nat} {l : List UInt8} {at_ e wh : Nat} (h : Rd w g A n c l at_ e wh) (x : Nat) : Rd (w.setCell ⟨g, 1, none⟩ (.int .i64 x)) g A n c l x e wh :=
  ⟨heap_set _ h.1, h.2.1.set_far _ h.1 rd_not, h.2.2⟩
theorem Rd.e2 {w : World} {g : Nat} {A : Option Addr} {n c : Nat} {l : List UInt8} {at_ e wh : Nat} (h : Rd w g A n c l at_ e wh) (x : Nat) : Rd (w.setCell ⟨g, 2, none⟩ (.int .i64 x)) g A n c l at_ x wh :=
  ⟨heap_set _ h.1, h.2.1.set_far _ h.1 rd_not, h.2.2⟩
theorem Rd.wh3 {w : World} {g : Nat} {A : Option Addr} {n c : Nat} {l : List UInt8} {at_ e wh : Nat} (h : Rd w g A n c l at_ e wh) (x : Nat) : Rd (w.setCell ⟨g, 3, none⟩ (.int .i64 x)) g A n c l at_ e x :=
  ⟨heap_set _ h.1, h.2.1.set_far _ h.1 rd_not, h.2.2⟩
theorem Rd.drew {w : World} {g : Nat} {A : Option Addr} {n c : Nat} {l : List UInt8} {at_ e wh : Nat} (h : Rd w g A n c l at_ e wh) : Rd w.drew g A n c l at_ e wh := h
theorem Rd.drewN {w : World} {g : Nat} {A : Option Addr} {n c : Nat} {l : List UInt8} {at_ e wh : Nat} (h : Rd w g A n c l at_ e wh) (k : Nat) : Rd (w.drewN k) g A n c l at_ e wh := h
theorem Rd.below {w w' : World} {g : Nat} {A : Option Addr} {n c : Nat} {l : List UInt8} {at_ e wh : Nat} (h : Rd w g A n c l at_ e wh) (hb : Below w.heap.size w w') : Rd w' g A n c l at_ e wh :=
  ⟨(hb.block g (lt_of_heap h.1)).trans h.1, h.2.1.below hb, h.2.2⟩
/-- What a walk asks of the reader's cells. -/
theorem Rd.cells {w : World} {g : Nat} {A : Option Addr} {n c : Nat} {l : List UInt8} {at_ e wh : Nat} (h : Rd w g A n c l at_ e wh) :
    w.cell? ⟨g, 0, none⟩ = some (.slice A n c) ∧ w.cell? ⟨g, 1, none⟩ = some (.int .i64 at_) ∧ w.cell? ⟨g, 2, none⟩ = some (.int .i64 e) ∧ w.cell? ⟨g, 3, none⟩ = some (.int .i64 wh) ∧ ∀ i, w.frozen? ⟨g, i, none⟩ = false :=
  ⟨cell_of_row w g 0 _ _ _ h.1, cell_of_row w g 1 _ _ _ h.1, cell_of_row w g 2 _ _ _ h.1, cell_of_row w g 3 _ _ _ h.1, fun i => frozen_of_row w g i _ _ h.1⟩
theorem grown_set {w : World} {g i : Nat} (v : Value) : w.grownBy (w.setCell ⟨g, i, none⟩ v) (some g) := ⟨rfl, rfl, rfl, by simp, fun k _ hk => heap_setCell_other w ⟨g, i, none⟩ k v (fun e => hk (by simp [e]))⟩
theorem grown_trans {a b c : World} {row : Option Nat} (h : a.grownBy b row) (k : b.grownBy c row) : a.grownBy c row :=
  ⟨k.os.trans h.os, k.tape.trans h.tape, k.output.trans h.output, Nat.le_trans h.size k.size, fun i hi hn => (k.block i (Nat.lt_of_lt_of_le hi h.size) hn).trans (h.block i hi hn)⟩
theorem grown_drew {a b : World} {row : Option Nat} (h : a.grownBy b row) : a.grownBy b.drew row := ⟨h.os, h.tape, h.output, h.size, h.block⟩
theorem grown_below {a b c : World} {row : Option Nat} (h : a.grownBy b row) (hb : Below b.heap.size b c) : a.grownBy c row :=
  ⟨hb.os.trans h.os, hb.tape.trans h.tape, hb.output.trans h.output, Nat.le_trans h.size hb.size, fun i hi hn => (hb.block i (Nat.lt_of_lt_of_le hi h.size)).trans (h.block i hi hn)⟩

set_option maxHeartbeats 400000 in
theorem fail_any (w : World) (g : Nat) (A : Option Addr) (n c : Nat) (l : List UInt8) (at_ wh x y : Nat) (hr : Rd w g A n c l at_ 0 wh) :
    Calls Try.prog 28 #[.pointer (some ⟨g, 0, none⟩), .int .i64 x, .int .i64 y] w fun e w' => e = .returned (.tuple #[]) ∧ Rd w' g A n c l y x y ∧ w.grownBy w' (some g) := by
  obtain ⟨k0, k1, k2, k3, kf⟩ := hr.cells
  have f1 := kf 1
  have f2 := kf 2
  have f3 := kf 3
  have HR := hid hr
  clear hr kf
  go_enter Try.func28, Try.ntmps28
  go_wp2
  go_end0
  exact ⟨rfl, ((HR.out.e2 x).wh3 y).at1 y, grown_trans (grown_trans (grown_set _) (grown_set _)) (grown_set _)⟩

set_option maxHeartbeats 400000 in
theorem at_any (w : World) (g : Nat) (A : Option Addr) (n c : Nat) (l : List UInt8) (at_ e0 wh : Nat) (hr : Rd w g A n c l at_ e0 wh) :
    Calls Try.prog 26 #[.pointer (some ⟨g, 0, none⟩)] w fun e w' => e = .returned (.int .i64 at_) ∧ w = w' := by
  obtain ⟨k0, k1, k2, k3, kf⟩ := hr.cells
  clear hr kf
  go_enter Try.func26, Try.ntmps26
  go_wp2
  go_ret
  exact ⟨rfl, rfl⟩

set_option maxHeartbeats 400000 in
theorem err_any (w : World) (g : Nat) (A : Option Addr) (n c : Nat) (l : List UInt8) (at_ e0 wh : Nat) (hr : Rd w g A n c l at_ e0 wh) :
    Calls Try.prog 24 #[.pointer (some ⟨g, 0, none⟩)] w fun e w' => e = .returned (.tuple #[.int .i64 e0, .int .i64 wh]) ∧ Rd w' g A n c l at_ e0 wh ∧ w.grownBy w' none := by
  obtain ⟨k0, k1, k2, k3, kf⟩ := hr.cells
  have HR := hid hr
  clear hr kf
  go_enter Try.func24, Try.ntmps24
  go_wp2
  go_quiet (fail)
  go_wp2
  go_ret2
  exact ⟨rfl, HR.out.drewN _, ⟨rfl, rfl, rfl, Nat.le_refl _, fun _ _ _ => rfl⟩⟩
end Go.Proofs.Ytnloooakfhjggaa
