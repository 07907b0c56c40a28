/-
  Acts that are handed in; what JournalSettles leans on. A part of the proof: see the head of the text that ends in 'Law'.
-/
import Derived.Test.YtpppmijohfjigaaJn29
namespace Go.Proofs.Ytpppmijohfjigaa
open Go.ChangeShapes Go.WideShapes Go.ChangeAt Go.RowKit
set_option linter.unusedVariables false
set_option maxRecDepth 100000
abbrev ActA : Type := Int × Int × UInt8 × SlOf PutA × SlOf Bool
def actA (a : ActA) : List Value := [.int .i64 a.1] ++ ([.int .i64 a.2.1] ++ ([B8 a.2.2.1] ++ ([a.2.2.2.1.val] ++ [a.2.2.2.2.val])))
def okAct (W : World) (a : ActA) : Prop := in64 a.1 ∧ in64 a.2.1 ∧ True ∧ a.2.2.2.1.Ok putA (okPut W) W ∧ a.2.2.2.2.Ok boolC (fun _ => True) W
theorem rd_act {H : Type} {enc : TypeId × Value → H} {W : World} : RdAs enc Try.prog W 51 actA (okAct W) := by
  have R := rd_struct5 Try.underlying51 (rd_int (enc := enc) (W := W) Try.underlying3) (rd_int Try.underlying3) (rd_u8 Try.underlying5) (rd_slice Try.underlying22 rd_put 2 (by kernel_rfl) (fun _ => rfl)) (rd_slice Try.underlying40 (rd_bool Try.underlying4) 1 (by kernel_rfl) (fun _ => rfl)) ⟨rfl, by kernel_rfl, by kernel_rfl, by kernel_rfl, by kernel_rfl, by kernel_rfl⟩
  exact R
theorem arg_acts {H : Type} {enc : TypeId × Value → H} {W : World} {r : Reach} {b0 : Nat} {v : Value} {d : DataW H} {p : List MemPlace} (hval : Value.okWide Try.prog W r b0 49 v) (h : DataW.Trod enc Try.prog W 0 (fun _ => true) true 49 v d p) :
    ∃ s : SlOf ActA, v = s.val ∧ s.Ok actA (okAct W) W :=
  arg_sl Try.underlying49 rd_act 5 (by kernel_rfl) (fun _ => rfl) hval h
/-- An act. -/
structure ActV where
  Do : Int
  I : Int
  C : UInt8
  A : Option Addr
  n : Nat
  c : Nat
  vs : List PuV
  KA : Option Addr
  kn : Nat
  kc : Nat
  ks : List Bool
def actC (a : ActV) : List Value := [.int .i64 a.Do, .int .i64 a.I, B8 a.C, .slice a.A a.n a.c, .slice a.KA a.kn a.kc]
structure ActsIn (w : World) (A : Option Addr) (n : Nat) (l : List ActV) : Prop where
  len : l.length = n
  row : Row w A (l.flatMap actC)
  i64 : ∀ a ∈ l, W64 a.Do ∧ W64 a.I
  puts : ∀ a ∈ l, PutsIn w a.A a.n a.vs ∧ a.n ≤ a.c
  kl : ∀ a ∈ l, a.ks.length = a.kn
  kr : ∀ a ∈ l, Row w a.KA (a.ks.map boolV)
theorem act_len (l : List ActV) : (l.flatMap actC).length = l.length * 5 := by
  induction l with
  | nil => rfl
  | cons x r ih => simp only [List.flatMap_cons, List.length_append, List.length_cons, ih, actC, List.length_nil]; omega
theorem act_at {w : World} {A : Option Addr} {l : List ActV} (h : Row w A (l.flatMap actC)) {k : Nat} (hk : k < l.length) : ∃ b off, A = some ⟨b, off, none⟩ ∧ ∀ (j : Nat) (hj : j < l.length),
    w.cell? ⟨b, off + j * 5, none⟩ = some (.int .i64 (l[j]'hj).Do) ∧ w.cell? ⟨b, off + j * 5 + 1, none⟩ = some (.int .i64 (l[j]'hj).I) ∧ w.cell? ⟨b, off + j * 5 + 2, none⟩ = some (B8 (l[j]'hj).C) ∧ w.cell? ⟨b, off + j * 5 + 3, none⟩ = some (.slice (l[j]'hj).A (l[j]'hj).n (l[j]'hj).c) ∧ w.cell? ⟨b, off + j * 5 + 4, none⟩ = some (.slice (l[j]'hj).KA (l[j]'hj).kn (l[j]'hj).kc) := by
  obtain ⟨b, off, hA, hc⟩ := h (by intro e; have := congrArg List.length e; rw [act_len, List.length_nil] at this; omega)
  refine ⟨b, off, hA, fun j hj => ?_⟩
  have g := fun i hi => flatMap_get actC 5 (fun _ => rfl) l j i hj hi
  exact ⟨hc (j * 5 + 0) _ ((g 0 (by omega)).trans rfl), hc (j * 5 + 1) _ ((g 1 (by omega)).trans rfl), hc (j * 5 + 2) _ ((g 2 (by omega)).trans rfl), hc (j * 5 + 3) _ ((g 3 (by omega)).trans rfl), hc (j * 5 + 4) _ ((g 4 (by omega)).trans rfl)⟩
def actV (a : ActA) : ActV := ⟨a.1, a.2.1, a.2.2.1, a.2.2.2.1.A, a.2.2.2.1.n, a.2.2.2.1.c, a.2.2.2.1.l.map puV, a.2.2.2.2.A, a.2.2.2.2.n, a.2.2.2.2.c, a.2.2.2.2.l⟩
theorem flat_acts (l : List ActA) : (l.map actV).flatMap actC = l.flatMap actA := by
  induction l with
  | nil => rfl
  | cons a r ih => rw [List.map_cons, List.flatMap_cons, List.flatMap_cons, ih]; rfl
theorem acts_of {W : World} {s : SlOf ActA} (h : s.Ok actA (okAct W) W) : ActsIn W s.A s.n (s.l.map actV) := by
  refine ⟨by rw [List.length_map]; exact h.len, by rw [flat_acts]; exact h.row, ?_, ?_, ?_, ?_⟩
  all_goals (intro v hv; obtain ⟨a, ha, rfl⟩ := List.mem_map.1 hv; have g := h.good a ha)
  · exact ⟨g.1, g.2.1⟩
  · exact ⟨puts_of g.2.2.2.1, g.2.2.2.1.nc⟩
  · exact g.2.2.2.2.len
  · show Row W a.2.2.2.2.A (a.2.2.2.2.l.map boolV)
    rw [← flat_bool]
    exact g.2.2.2.2.row
/-- On, without a budget, of so many sectors, and of no more writes. -/
structure Fre (N m : Nat) (D : Dsk) : Prop where
  off : D.off = false
  bud : D.bud = -1
  len : D.has.length = N
  w : D.waits.length ≤ m
theorem Fre.on {N m : Nat} {D : Dsk} (h : Fre N m D) : onD D = true ∧ spendD D = D := by
  unfold onD spendD
  rw [h.bud, h.off]
  exact ⟨rfl, rfl⟩
theorem Fre.write {N m : Nat} {D : Dsk} (h : Fre N m D) (i : Int) (s : List UInt8) : Fre N (m + 1) (writeD D i s).1 := by
  unfold writeD
  split
  · rw [if_pos h.on.1, h.on.2]
    exact ⟨h.off, h.bud, h.len, by show (D.waits ++ [(i, s)]).length ≤ _; rw [List.length_append, List.length_singleton]; have := h.w; omega⟩
  · exact ⟨h.off, h.bud, h.len, by have := h.w; show D.waits.length ≤ _; omega⟩
theorem Fre.mono {N m k : Nat} {D : Dsk} (h : Fre N m D) (hk : m ≤ k) : Fre N k D := ⟨h.off, h.bud, h.len, Nat.le_trans h.w hk⟩
theorem Fre.flush {N m : Nat} {D : Dsk} (h : Fre N m D) : Fre N 0 (flushD D).1 ∧ (flushD D).1.waits = [] := by
  unfold flushD
  rw [if_pos h.on.1, h.on.2]
  exact ⟨⟨h.off, h.bud, by show (doneK _ _ _ _).length = N; rw [doneK_len]; exact h.len, Nat.zero_le _⟩, rfl⟩
theorem fre_made (n : Nat) (h : 41 < n) : Fre n 0 (madeD n) := by
  have k := (made_ok n h).2
  exact ⟨k.off, k.bud, k.len, by rw [k.w]; exact Nat.zero_le _⟩
end Go.Proofs.Ytpppmijohfjigaa
