/-
  A page is read: the walk. A part of the proof: see the head of the text that ends in 'Law'.
-/
import Derived.Test.YtlhngieinmgooaaTr8
import Derived.Test.YtlhngieinmgooaaTr6
import Derived.Test.YtlhngieinmgooaaShelf
import Derived.Test.YtlhngieinmgooaaOctRef
namespace Go.Proofs.Ytlhngieinmgooaa
open Go.RowKit
set_option linter.unusedVariables false
set_option maxRecDepth 100000
attribute [local go_sem] Oper.semAt_some

theorem beq_any (A B : Option Addr) (n c m d : Nat) (l k : List UInt8) (w : World) (h1 : Oct w A n l) (h2 : Oct w B m k) :
    Calls Try.prog 29 #[.slice A n c, .slice B m d] w fun e w' => e = .returned (.bool (decide (l = k))) ∧ w' = w :=
  (Try.bytes_Equal_strs (.slice A n c) (.slice B m d) (str l) (str k) w (strP c h1) (strP d h2)).mono fun e w' h => ⟨by
    rw [h.1, ByteArray.toList_eq, ByteArray.toList_eq]
    rw [str_toList, str_toList]
    congr 2
    by_cases hlk : l = k
    · rw [decide_eq_true hlk, hlk]; simp
    · rw [decide_eq_false hlk]; simpa using hlk, h.2⟩
def nodeV (V1 V2 : Value) (t : Bool) : Value := .agg #[V1, V2, .bool t]
/-- What read hands back. -/
def RdR (w w' : World) (b : List UInt8) (e : Ending) : Prop :=
  (isP b = false ∧ e = .returned (.tuple #[.agg #[.slice none 0 0, .slice none 0 0, .bool false], .bool false])) ∨
  (isP b = true ∧ ∃ A1 m1 c1 A2 m2 c2, e = .returned (.tuple #[.agg #[.slice A1 m1 c1, .slice A2 m2 c2, .bool (decide (octA b 0 = 2))], .bool true]) ∧ (pairsB b).length = m1 ∧ (kidsB b).length = m2 ∧
    w'.ownsRow w.heap.size 48 2 (.slice A1 m1 c1) m1 ((pairsB b).flatMap paC) ∧ w'.ownsRow w.heap.size 57 2 (.slice A2 m2 c2) m2 ((kidsB b).flatMap kdC))
theorem nd_res {tmps : Array Value} {w : World} {g : Nat} {v1 v2 v3 u : Value} {T : TypeId} {fr : Nat × Nat} (hg : w.heap[g]? = some (.cells #[v1, v2, v3] T fr)) (hp : tmps.getD 2 undef = .pointer (some ⟨g, 0, none⟩)) (hu : tmps.getD 3 undef = u) :
    (results Try.f27 tmps).run Try.prog w = .ok (.tuple #[.agg #[v1, v2, v3], u]) w := by
  rw [results_cell_tmp Try.results27, hp, hu]
  simp [asAddr, run_loadVar_row w g T 66 #[v1, v2, v3] fr _ hg Try.underlying66 rfl (by kernel_rfl)]
theorem nd_st {W : World} {g : Nat} {T : TypeId} {x1 x2 x3 : Value} (h : OwnE W g T [x1, x2, x3]) (v1 v2 v3 : Value) : OwnE (((W.setCell ⟨g, 0, none⟩ v1).setCell ⟨g, 1, none⟩ v2).setCell ⟨g, 2, none⟩ v3) g T [v1, v2, v3] := ((h.set 0 v1).set 1 v2).set 2 v3
theorem nd_bl {B g : Nat} {w W : World} (h : Below B w W) (hg : B ≤ g) (v1 v2 v3 : Value) : Below B w (((W.setCell ⟨g, 0, none⟩ v1).setCell ⟨g, 1, none⟩ v2).setCell ⟨g, 2, none⟩ v3) :=
  ((h.setCell (p := ⟨g, 0, none⟩) hg v1).setCell (p := ⟨g, 1, none⟩) hg v2).setCell (p := ⟨g, 2, none⟩) hg v3
set_option maxHeartbeats 8000000 in
theorem read_len (A : Option Addr) (n c : Nat) (b : List UInt8) (w : World) (ho : Oct w A n b) (h128 : n ≠ 128) :
    Calls Try.prog 27 #[.slice A n c] w fun e w' => Below w.heap.size w w' ∧ RdR w w' b e := by
  have HL := hid ho.1
  have g0 : ((n : Int) == 128) = false := ne_f (b := 128) h128
  have g0n : (n == 128) = false := ne_n h128
  have HF : Hid (isP b = false) := hid (by unfold isP kindP; rw [HL.out, decide_eq_false h128]; rfl)
  clear ho
  go_enter Try.func27, Try.ntmps27
  go_upto_region 1 with fail
  obtain ⟨w0, hw0⟩ : ∃ w0, w.alloc (.cells #[.slice none 0 0, .slice none 0 0, .bool false] 66) = w0 := ⟨_, rfl⟩
  have hg0 : OwnE w0 w.heap.size 66 [.slice none 0 0, .slice none 0 0, .bool false] := by rw [← hw0]; exact OwnE.new_ w _ _
  have hb0 : Below w.heap.size w w0 := by rw [← hw0]; exact (Below.refl _ w).alloc (Nat.le_refl _) _
  rw [hw0]
  clear hw0
  have c0 := hg0.cell (j := 0) rfl
  have c1 := hg0.cell (j := 1) rfl
  have c2 := hg0.cell (j := 2) rfl
  have f0 := hg0.frozen 0
  have f1 := hg0.frozen 1
  have f2 := hg0.frozen 2
  have HG0 := hid hg0
  have HB0 := hid hb0
  clear hg0 hb0
  go_wp2_with fail
  refine bodyPost_ret (nd_res (nd_st HG0.out (.slice none 0 0) (.slice none 0 0) (.bool false)) rfl rfl) rfl ?_
  exact ⟨nd_bl HB0.out (Nat.le_refl _) _ _ _, .inl ⟨HF.out, rfl⟩⟩
theorem rd_cells {w : World} {A : Option Addr} {b : List UInt8} (ho : Oct w A 128 b) : ∃ g off, A = some ⟨g, off, none⟩ ∧ w.cell? ⟨g, off, none⟩ = some (.int .u8 ((octA b 0 : Nat) : Int)) ∧ w.cell? ⟨g, off + 1, none⟩ = some (.int .u8 ((octA b 1 : Nat) : Int)) := by
  have hl := ho.1
  obtain ⟨g, off, rfl, hc⟩ := ho.at_ (by omega)
  have x0 := hc 0 (by omega)
  have x1 := hc 1 (by omega)
  have e0 : b[0]'(by omega) = b.getD 0 0 := by rw [List.getD_eq_getElem?_getD, List.getElem?_eq_getElem]; rfl
  have e1 : b[1]'(by omega) = b.getD 1 0 := by rw [List.getD_eq_getElem?_getD, List.getElem?_eq_getElem]; rfl
  rw [e0, Nat.add_zero] at x0
  rw [e1] at x1
  exact ⟨g, off, rfl, x0, x1⟩
set_option maxHeartbeats 8000000 in
theorem read_kind (A : Option Addr) (c : Nat) (b : List UInt8) (w : World) (ho : Oct w A 128 b) (hnc : 128 ≤ c) (h1 : octA b 0 ≠ 1) (h2 : octA b 0 ≠ 2) :
    Calls Try.prog 27 #[.slice A 128 c] w fun e w' => Below w.heap.size w w' ∧ RdR w w' b e := by
  obtain ⟨g, off, rfl, x0, x1⟩ := rd_cells ho
  have HF : Hid (isP b = false) := hid (by unfold isP kindP; simp [h1, h2])
  have hk1l := octA_lt b 1
  obtain ⟨k0, hk0⟩ : ∃ k0, octA b 0 = k0 := ⟨_, rfl⟩
  obtain ⟨k1, hk1⟩ : ∃ k1, octA b 1 = k1 := ⟨_, rfl⟩
  rw [hk0] at x0 h1 h2
  rw [hk1] at x1 hk1l
  have g0 : ((k0 : Int) == 2) = false := ne_f (b := 2) h2
  have g1 : ((k0 : Int) == 1) = false := ne_f (b := 1) h1
  have g0n : (k0 == 2) = false := ne_n h2
  have g1n : (k0 == 1) = false := ne_n h1
  have w1 : IntKind.i64.wrap (k1 : Int) = (k1 : Int) := by rw [IntKind.wrap_i64]; omega
  clear ho hk0 hk1
  go_enter Try.func27, Try.ntmps27
  go_upto_region 1 with fail
  obtain ⟨w0, hw0⟩ : ∃ w0, w.alloc (.cells #[.slice none 0 0, .slice none 0 0, .bool false] 66) = w0 := ⟨_, rfl⟩
  have hg0 : OwnE w0 w.heap.size 66 [.slice none 0 0, .slice none 0 0, .bool false] := by rw [← hw0]; exact OwnE.new_ w _ _
  have hb0 : Below w.heap.size w w0 := by rw [← hw0]; exact (Below.refl _ w).alloc (Nat.le_refl _) _
  rw [hw0]
  clear hw0
  have c0 := hg0.cell (j := 0) rfl
  have c1 := hg0.cell (j := 1) rfl
  have c2 := hg0.cell (j := 2) rfl
  have f0 := hg0.frozen 0
  have f1 := hg0.frozen 1
  have f2 := hg0.frozen 2
  have HG0 := hid hg0
  have HB0 := hid hb0
  clear hg0 hb0
  have y0 := cells_keep HB0.out x0
  have y1 := cells_keep HB0.out x1
  clear x0 x1
  go_wp2_with fail
  refine bodyPost_ret (nd_res (nd_st HG0.out (.slice none 0 0) (.slice none 0 0) (.bool false)) rfl rfl) rfl ?_
  exact ⟨nd_bl HB0.out (Nat.le_refl _) _ _ _, .inl ⟨HF.out, rfl⟩⟩
end Go.Proofs.Ytlhngieinmgooaa
