/-
  Is a field one of some; a field's text: the program's walk. A part of the proof: see the head of the text that ends in 'Law'.
-/
import Derived.Test.YthlofpofcpconaaDoorHe16
import Derived.Test.YthlofpofcpconaaDoorHe17
namespace Go.Proofs.YthlofpofcpconaaDoor
open Go.RowKit Go.Shelf
set_option linter.unusedVariables false
attribute [local go_sem] Oper.semAt_some

/-- A field as it may come in. -/
structure FI where
  nm : List UInt8
  fr : Int
  te : Int
  at_ : Int
deriving DecidableEq
def Fd.toI (f : Fd) : FI := ⟨f.nm, (f.fr : Int), (f.te : Int), (f.at_ : Int)⟩
theorem run_equal_fd (w : World) (x y : FI) : (Op.equalIn 10000 39 (.agg #[.string (str x.nm), .int .i64 x.fr, .int .i64 x.te, .int .i64 x.at_]) (.agg #[.string (str y.nm), .int .i64 y.fr, .int .i64 y.te, .int .i64 y.at_])).run Tryd.prog w = .ok (decide (x = y)) w := by
  rw [run_equalIn_struct w 9999 39 _ _ (by kernel_rfl) (by kernel_rfl)]
  obtain ⟨a, b, c, u⟩ := x
  obtain ⟨d, e, f, v⟩ := y
  by_cases h1 : a = d
  · subst h1
    by_cases h2 : b = e
    · subst h2
      by_cases h3 : c = f
      · subst h3
        by_cases h4 : u = v
        · subst h4
          simp [Program.fieldsOf, Tryd.underlying39, Op.eqFields, go_sem]
        · simp [Program.fieldsOf, Tryd.underlying39, Op.eqFields, go_sem, h4]
      · simp [Program.fieldsOf, Tryd.underlying39, Op.eqFields, go_sem, h3]
    · simp [Program.fieldsOf, Tryd.underlying39, Op.eqFields, go_sem, h2]
  · have q : (str a == str d) = false := by rw [str_eqv]; simpa using h1
    simp [Program.fieldsOf, Tryd.underlying39, Op.eqFields, go_sem, q, h1]
theorem fdC_ne {l : List Fd} (h : 0 < l.length) : l.flatMap fdC ≠ [] := by
  cases l with
  | nil => cases h
  | cons x r => rw [List.flatMap_cons]; simp [fdC]
theorem fd_at {w : World} {A : Option Addr} {l : List Fd} (h : Row w A (l.flatMap fdC)) {k : Nat} (hk : k < l.length) : ∃ b off, A = some ⟨b, off, none⟩ ∧ ∀ (j : Nat) (hj : j < l.length),
    w.cell? ⟨b, off + j * 4, none⟩ = some (.string (str (l[j]'hj).nm)) ∧ w.cell? ⟨b, off + j * 4 + 1, none⟩ = some (.int .i64 ((l[j]'hj).fr : Int)) ∧ w.cell? ⟨b, off + j * 4 + 2, none⟩ = some (.int .i64 ((l[j]'hj).te : Int)) ∧ w.cell? ⟨b, off + j * 4 + 3, none⟩ = some (.int .i64 ((l[j]'hj).at_ : Int)) := by
  obtain ⟨b, off, hA, hc⟩ := h (fdC_ne (by omega))
  refine ⟨b, off, hA, fun j hj => ?_⟩
  have g := fun i hi => fdC_get l j hj i hi
  exact ⟨hc (j * 4 + 0) _ ((g 0 (by omega)).trans rfl), hc (j * 4 + 1) _ ((g 1 (by omega)).trans rfl), hc (j * 4 + 2) _ ((g 2 (by omega)).trans rfl), hc (j * 4 + 3) _ ((g 3 (by omega)).trans rfl)⟩
/-- Is it the first k of them? -/
def inF (fs : List Fd) (g : FI) : Bool := fs.any fun f => decide (g = f.toI)
theorem inF_step (fs : List Fd) (g : FI) (k : Nat) (hk : k < fs.length) : inF (fs.drop k) g = (decide (g = fs[k].toI) || inF (fs.drop (k + 1)) g) := by
  unfold inF
  rw [List.drop_eq_getElem_cons hk, List.any_cons]
set_option maxRecDepth 100000 in
set_option maxHeartbeats 2000000 in
theorem index_fd (A : Option Addr) (n c : Nat) (fs : List Fd) (g : FI) (w : World) (hn : fs.length = n) (ha : Row w A (fs.flatMap fdC)) (hl : n ≤ 100000) :
    Calls Tryd.prog 49 #[.slice A n c, .agg #[.string (str g.nm), .int .i64 g.fr, .int .i64 g.te, .int .i64 g.at_]] w fun e w' => (∃ k : Int, e = .returned (.int .i64 k) ∧ decide (0 ≤ k) = inF fs g) ∧ Below w.heap.size w w' := by
  have HA := hid ha
  have HL := hid hn
  have HB0 := hid ((Below.refl _ w).alloc (Nat.le_refl _) (.cells #[.string (str g.nm), .int .i64 g.fr, .int .i64 g.te, .int .i64 g.at_] 39))
  have HX0 := hid (OwnE.new_ w [.string (str g.nm), .int .i64 g.fr, .int .i64 g.te, .int .i64 g.at_] 39)
  clear ha hn
  go_enter Tryd.func49, Tryd.ntmps49
  go_wp2_with fail
  go_loopw [8] (fun i wr => ∃ k : Nat, k ≤ n ∧ i = .int .i64 (k : Int) ∧ Hid (inF (fs.drop k) g = inF fs g ∧ Below (w.heap.size + 1) (w.alloc (.cells #[.string (str g.nm), .int .i64 g.fr, .int .i64 g.te, .int .i64 g.at_] 39)) wr)) (fun i wr => n - (intOf i).toNat)
  case atStart => exact ⟨0, by omega, rfl, hid ⟨by rw [List.drop_zero], Below.refl _ _⟩⟩
  case round =>
    obtain ⟨k, hk, rfl, hI⟩ := hrel
    have HB1 : Hid (Below w.heap.size w wr) := hid (HB0.out.trans (hI.out.2.mono (Nat.le_succ _)))
    have HX1 : Hid (OwnE wr w.heap.size 39 [.string (str g.nm), .int .i64 g.fr, .int .i64 g.te, .int .i64 g.at_]) := hid (HX0.out.upto hI.out.2 (by omega))
    by_cases hlt : k < n
    · have d1 : decide ((k : Int) < (n : Int)) = true := by simp; omega
      have d1' : decide (k < n) = true := by simpa using hlt
      have hkl : k < fs.length := by rw [HL.out]; exact hlt
      obtain ⟨b, off, rfl, hc⟩ := fd_at HA.out hkl
      have hst := inF_step fs g k hkl
      rw [hI.out.1] at hst
      obtain ⟨x, hx⟩ : ∃ x, fs[k]'hkl = x := ⟨_, rfl⟩
      have p0 := cells_keep HB1.out (hc k hkl).1
      have p1 := cells_keep HB1.out (hc k hkl).2.1
      have p2 := cells_keep HB1.out (hc k hkl).2.2.1
      have p3 := cells_keep HB1.out (hc k hkl).2.2.2
      rw [hx] at p0 p1 p2 p3 hst
      have q0 := HX1.out.cell (j := 0) rfl
      have q1 := HX1.out.cell (j := 1) rfl
      have q2 := HX1.out.cell (j := 2) rfl
      have q3 := HX1.out.cell (j := 3) rfl
      have i0 : (0 : Int) ≤ (k : Int) := by omega
      have i1 : (k : Int) < (n : Int) := by omega
      have i2 : (k : Int).toNat = k := by omega
      have hq := fun W => run_equal_fd W g x.toI
      unfold Fd.toI at hq
      dsimp only at hq
      have HT : Hid ((⟨x.nm, (x.fr : Int), (x.te : Int), (x.at_ : Int)⟩ : FI) = x.toI) := hid rfl
      obtain ⟨t, ht⟩ : ∃ t, decide (g = x.toI) = t := ⟨_, rfl⟩
      rw [HT.out, ht] at hq
      rw [ht] at hst
      have hg : Tryd.prog.eqGuardType Tryd.prog.depth 39 = false := by kernel_rfl
      have HST := hid hst
      clear hc hx hkl ht hst
      go_upto_region 4 with fail
      go_quiet (fail)
      cases t with
      | true =>
        have HF : Hid (true = inF fs g) := hid HST.out.symm
        have hk0 : decide ((0 : Int) ≤ (k : Int)) = true := by simp
        go_wp2_with fail
        go_ret
        exact ⟨⟨(k : Int), rfl, by rw [← HF.out]; exact hk0⟩, bq HB1.out _⟩
      | false =>
        have HF : Hid (inF (fs.drop (k + 1)) g = inF fs g) := hid HST.out.symm
        go_wp2_with fail
        go_roundw
        case rel => exact ⟨k + 1, by omega, by go_num, hid ⟨HF.out, (hI.out.2.trans (bq (Below.refl _ _) _))⟩⟩
        case measure => simp [intOf]; omega
    · have d1 : decide ((k : Int) < (n : Int)) = false := by simp; omega
      have d1' : decide (k < n) = false := by simpa using hlt
      have HF : Hid (inF fs g = false) := hid (by rw [← hI.out.1, List.drop_of_length_le (by rw [HL.out]; omega)]; rfl)
      go_wp2_with fail
      go_ret
      exact ⟨⟨-1, rfl, by rw [HF.out]; rfl⟩, HB1.out⟩
set_option maxRecDepth 100000 in
set_option maxHeartbeats 2000000 in
theorem contains_fd (A : Option Addr) (n c : Nat) (fs : List Fd) (g : FI) (w : World) (hn : fs.length = n) (ha : Row w A (fs.flatMap fdC)) (hl : n ≤ 100000) :
    Calls Tryd.prog 37 #[.slice A n c, .agg #[.string (str g.nm), .int .i64 g.fr, .int .i64 g.te, .int .i64 g.at_]] w fun e w' => e = .returned (.bool (inF fs g)) ∧ Below w.heap.size w w' := by
  have HB0 := hid ((Below.refl _ w).alloc (Nat.le_refl _) (.cells #[.string (str g.nm), .int .i64 g.fr, .int .i64 g.te, .int .i64 g.at_] 39))
  have HA := hid (ha.below HB0.out)
  have HL := hid hn
  clear ha hn
  go_enter Tryd.func37, Tryd.ntmps37
  go_wp2_with (go_at_call 49; refine (index_fd A n c fs g _ HL.out HA.out hl).mono ?_; rintro e w1 ⟨⟨k, rfl, hk⟩, hb⟩; have HB := hid (past HB0.out hb); clear hb)
  go_ret
  exact ⟨rfl, HB.out⟩
end Go.Proofs.YthlofpofcpconaaDoor
