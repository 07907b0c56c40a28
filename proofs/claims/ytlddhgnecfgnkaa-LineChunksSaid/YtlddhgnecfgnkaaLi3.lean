/-
  An atom. A part of the proof: see the head of the text that ends in 'Law'.
-/
import Derived.Test.YtlddhgnecfgnkaaLi2
import Derived.WalkMore
import Derived.BigRegion
namespace Go.Proofs.Ytlddhgnecfgnkaa
open Go.RowKit
set_option linter.unusedVariables false
attribute [local go_sem] Oper.semAt_some

/-- A cutter at g, behind k octets of s; the answer's own box stands behind w. -/
structure CutI (w wr : World) (g : Nat) (s : List UInt8) (k : Nat) : Prop where
  c : OwnE wr g 54 [.string (str s), .int .i64 (k : Int)]
  r : OwnE wr w.heap.size 34 [.int .i64 0, .string ⟨#[]⟩]
  o : Only (fun x => x = g) w wr
def atOf (wr : World) (g : Nat) : Nat := match wr.cell? ⟨g, 1, none⟩ with | some v => (intOf v).toNat | none => 0
theorem CutI.at_ {w wr : World} {g : Nat} {s : List UInt8} {k : Nat} (h : CutI w wr g s k) : atOf wr g = k := by
  unfold atOf
  rw [h.c.cell (j := 1) rfl]
  simp [intOf]
theorem CutI.drewN {w wr : World} {g : Nat} {s : List UInt8} {k : Nat} (h : CutI w wr g s k) (n : Nat) : CutI w (wr.drewN n) g s k := ⟨h.c, h.r, ⟨h.o.os, h.o.tape, h.o.output, h.o.size, h.o.block⟩⟩
theorem CutI.step {w wr : World} {g : Nat} {s : List UInt8} {k : Nat} (h : CutI w wr g s k) (hg : g < w.heap.size) (j : Nat) : CutI w (wr.setCell ⟨g, 1, none⟩ (.int .i64 (j : Int))) g s j :=
  ⟨h.c.set 1 _, h.r.far (by omega) _, h.o.trans (Only.of_set (T := fun x => x = g) wr ⟨g, 1, none⟩ _ rfl) (fun x h => .inl h)⟩
theorem CutI.succ {w wr : World} {g : Nat} {s : List UInt8} {k : Nat} (h : CutI w wr g s k) (hg : g < w.heap.size) : CutI w (wr.setCell ⟨g, 1, none⟩ (.int .i64 ((k : Int) + 1))) g s (k + 1) := by
  rw [show ((k : Int) + 1) = ((k + 1 : Nat) : Int) by omega]
  exact h.step hg _
/-- The answer is laid. -/
theorem CutI.res {w wr : World} {g : Nat} {s : List UInt8} {k : Nat} (h : CutI w wr g s k) (hg : g < w.heap.size) (a b : Value) : ((wr.setCell ⟨w.heap.size, 0, none⟩ a).setCell ⟨w.heap.size, 1, none⟩ b).cell? ⟨w.heap.size, 0, none⟩ = some a ∧ ((wr.setCell ⟨w.heap.size, 0, none⟩ a).setCell ⟨w.heap.size, 1, none⟩ b).cell? ⟨w.heap.size, 1, none⟩ = some b ∧
    OwnE ((wr.setCell ⟨w.heap.size, 0, none⟩ a).setCell ⟨w.heap.size, 1, none⟩ b) g 54 [.string (str s), .int .i64 (k : Int)] ∧ Only (fun x => x = g) w ((wr.setCell ⟨w.heap.size, 0, none⟩ a).setCell ⟨w.heap.size, 1, none⟩ b) := by
  have z := (h.r.set 0 a).set 1 b
  refine ⟨z.cell (j := 0) rfl, z.cell (j := 1) rfl, (h.c.far (by omega) _).far (by omega) _, ?_⟩
  refine ⟨h.o.os, h.o.tape, h.o.output, by simpa using h.o.size, fun j hj hn => ?_⟩
  rw [heap_setCell_other _ _ _ _ (by show j ≠ w.heap.size; omega), heap_setCell_other _ _ _ _ (by show j ≠ w.heap.size; omega)]
  exact h.o.block j hj hn
theorem CutI.start {w : World} {g : Nat} {s : List UInt8} {k : Nat} (h : OwnE w g 54 [.string (str s), .int .i64 (k : Int)]) : CutI w (w.alloc (.cells #[.int .i64 0, .string ⟨#[]⟩] 34)) g s k :=
  ⟨h.below ((Below.refl _ _).alloc (Nat.le_refl _) _), OwnE.new_ w _ _, Only.of_below ((Below.refl _ _).alloc (Nat.le_refl _) _)⟩
/-- What a cutter's word leaves, and answers. -/
def CutP (w : World) (g : Nat) (s : List UInt8) (k : Nat) (r : Option (Tk × Nat)) (e : Ending) (w' : World) : Prop :=
  Only (fun x => x = g) w w' ∧ match r with
    | none => ∃ (a : Int) (t : ByteArray) (k' : Nat), e = .returned (.tuple #[.agg #[.int .i64 a, .string t], .bool false]) ∧ OwnE w' g 54 [.string (str s), .int .i64 (k' : Int)]
    | some (t, n) => e = .returned (.tuple #[.agg #[.int .i64 (t.kind : Int), .string (str t.s)], .bool true]) ∧ OwnE w' g 54 [.string (str s), .int .i64 ((k + n : Nat) : Int)]
/-- What the atom is that stands at k. -/
def atomR (l : List UInt8) : Option (Tk × Nat) := match atomL false l with
  | none => none
  | some 0 => none
  | some (n + 1) => some (⟨0, l.take (n + 1)⟩, n + 1)
theorem atomL_le : ∀ (l : List UInt8) (b : Bool) (n : Nat), atomL b l = some n → n ≤ l.length
  | [], false, n, h => by simp [atomL] at h; omega
  | [], true, n, h => by simp [atomL] at h
  | c :: r, false, n, h => by
    unfold atomL at h
    split at h
    · obtain ⟨m, hm, rfl⟩ := Option.map_eq_some_iff.1 h
      have := atomL_le r _ m hm
      simp; omega
    · injection h with h; omega
  | c :: r, true, n, h => by
    unfold atomL at h
    split at h
    · obtain ⟨m, hm, rfl⟩ := Option.map_eq_some_iff.1 h
      have := atomL_le r _ m hm
      simp; omega
    · cases h
theorem drop_get {s : List UInt8} {k : Nat} (h : k < (str s).size) {c : UInt8} (hc : (str s)[k]'h = c) : s.drop k = c :: s.drop (k + 1) := by
  have hl : k < s.length := h
  rw [List.drop_eq_getElem_cons hl, ← hc]
  rfl
theorem map_shift {o : Option Nat} {a b : Nat} (h : a ≤ b) : ((o.map (· + 1)).map (· + (b - a))) = o.map (· + (b + 1 - a)) := by
  cases o with
  | none => rfl
  | some n => simp; omega
set_option maxRecDepth 100000 in
set_option maxHeartbeats 8000000 in
theorem atom_any (g : Nat) (s : List UInt8) (k0 : Nat) (w : World) (h : OwnE w g 54 [.string (str s), .int .i64 (k0 : Int)]) (hk0 : k0 ≤ s.length) (hl : s.length ≤ 100000) :
    Calls Try.prog 22 #[.pointer (some ⟨g, 0, none⟩)] w (CutP w g s k0 (atomR (s.drop k0))) := by
  have hst := CutI.start h
  have x1 := hst.c.cell (j := 1) rfl
  have HG := hid h.lt
  have I0 := hid hst
  have HL := hid hl
  have hsz : (str s).size = s.length := rfl
  clear h hst
  go_enter Try.func22, Try.ntmps22
  go_wp2_with fail
  go_step3
  go_wp2_with fail
  go_step3
  go_wp2_with fail
  go_loopw [9] (fun v wr => ∃ k, k0 ≤ k ∧ k ≤ s.length ∧ Hid (CutI w wr g s k ∧ atomL false (s.drop k0) = (atomL false (s.drop k)).map (· + (k - k0)))) (fun v wr => s.length - atOf wr g)
  case atStart => exact ⟨k0, Nat.le_refl _, hk0, hid ⟨I0.out, by simp⟩⟩
  case round =>
    obtain ⟨k, hk1, hk2, hI⟩ := hrel
    clear I0 x1
    have I := hid hI.out.1
    have HA := hid hI.out.1.at_
    have HE := hid hI.out.2
    clear hI
    have x0 := I.out.c.cell (j := 0) rfl
    have x1 := I.out.c.cell (j := 1) rfl
    have f1 := I.out.c.frozen 1
    by_cases hlt : k < s.length
    · have d1 : decide ((k : Int) < ((str s).size : Int)) = true := by rw [hsz]; simp; omega
      have d1' : decide (k < (str s).size) = true := by rw [hsz]; simp; omega
      have hks : k < (str s).size := by rw [hsz]; omega
      obtain ⟨c, hc⟩ : ∃ c, ((str s)[k]'hks) = c := ⟨_, rfl⟩
      have e0 : (0 : Int) ≤ (k : Int) := by omega
      have e1 : (k : Int) < ((str s).size : Int) := by rw [hsz]; omega
      have HD := hid (drop_get hks hc)
      cases hsg : signB c with
      | true =>
        have HSG := hid hsg
        have SG := hid (sign_q c true hsg)
        clear hsg
        go_upto_region 2 with fail
        go_quiet ((go_at_call 31; exact Calls.quiet_of_same (SG.out _)))
        obtain ⟨wq, hwq, I2⟩ : ∃ X, X = wr.drewN nq ∧ Hid (CutI w X g s k) := ⟨_, rfl, hid (I.out.drewN nq)⟩
        rw [← hwq]
        clear hwq x0 x1 f1 I nq
        rename World => wr
        have I := I2
        clear I2
        have x0 := I.out.c.cell (j := 0) rfl
        have x1 := I.out.c.cell (j := 1) rfl
        have f1 := I.out.c.frozen 1
        by_cases h91 : c.toNat = 91
        · have d2 : ((c.toNat : Int) != 91) = false := by rw [h91]; rfl
          have HE2 : Hid (atomL false (s.drop k0) = (atomL true (s.drop (k + 1))).map (· + (k + 1 - k0))) := hid (by
            rw [HE.out, HD.out, atomL, if_pos HSG.out, h91]
            exact map_shift hk1)
          clear HE h91
          go_upto_region 3 with fail
          go_quiet (fail)
          obtain ⟨wq, hwq, I2⟩ : ∃ X, X = wr.drewN nq ∧ Hid (CutI w X g s k) := ⟨_, rfl, hid (I.out.drewN nq)⟩
          rw [← hwq]
          clear hwq x0 x1 f1 I nq
          rename World => wr
          have I := I2
          clear I2
          have x0 := I.out.c.cell (j := 0) rfl
          have x1 := I.out.c.cell (j := 1) rfl
          have f1 := I.out.c.frozen 1
          go_wp2_with fail
          go_loopw [55] (fun v wx => ∃ k2, k + 1 ≤ k2 ∧ k2 ≤ s.length ∧ Hid (CutI w wx g s k2 ∧ atomL false (s.drop k0) = (atomL true (s.drop k2)).map (· + (k2 - k0)))) (fun v wx => s.length - atOf wx g)
          case atStart => exact ⟨k + 1, Nat.le_refl _, by omega, hid ⟨I.out.succ HG.out, HE2.out⟩⟩
          case round =>
            obtain ⟨k2, hk3, hk4, hI⟩ := hrel
            clear I x0 x1 f1 HE2 hc d1 d1' hks e0 e1 hlt
            have I := hid hI.out.1
            have HA2 := hid hI.out.1.at_
            have HE := hid hI.out.2
            clear hI
            have x0 := I.out.c.cell (j := 0) rfl
            have x1 := I.out.c.cell (j := 1) rfl
            have f1 := I.out.c.frozen 1
            by_cases hlt : k2 < s.length
            · have d1 : decide ((k2 : Int) < ((str s).size : Int)) = true := by rw [hsz]; simp; omega
              have d1' : decide (k2 < (str s).size) = true := by rw [hsz]; simp; omega
              have hks : k2 < (str s).size := by rw [hsz]; omega
              obtain ⟨c, hc⟩ : ∃ c, ((str s)[k2]'hks) = c := ⟨_, rfl⟩
              have e0 : (0 : Int) ≤ (k2 : Int) := by omega
              have e1 : (k2 : Int) < ((str s).size : Int) := by rw [hsz]; omega
              have HD := hid (drop_get hks hc)
              by_cases h32 : 32 ≤ c.toNat
              · have d6 : decide ((32 : Int) ≤ (c.toNat : Int)) = true := by simp; omega
                have d6' : decide (32 ≤ c.toNat) = true := by simpa using h32
                by_cases h127 : c.toNat < 127
                · have d7 : decide ((c.toNat : Int) < 127) = true := by simp; omega
                  have d7' : decide (c.toNat < 127) = true := by simpa using h127
                  by_cases h93 : c.toNat = 93
                  · have d8 : ((c.toNat : Int) == 93) = true := by rw [h93]; rfl
                    have HE2 : Hid (atomL false (s.drop k0) = (atomL false (s.drop (k2 + 1))).map (· + (k2 + 1 - k0))) := hid (by
                      rw [HE.out, HD.out, atomL, if_pos ⟨h32, h127⟩, show (c.toNat != 93) = false by rw [h93]; rfl]
                      exact map_shift (by omega))
                    clear HE h93
                    go_upto_region 6 with fail
                    go_quiet (fail)
                    obtain ⟨wq, hwq, I2⟩ : ∃ X, X = wr.drewN nq ∧ Hid (CutI w X g s k2) := ⟨_, rfl, hid (I.out.drewN nq)⟩
                    rw [← hwq]
                    clear hwq x0 x1 f1 I nq
                    rename World => wr
                    have I := I2
                    clear I2
                    have x0 := I.out.c.cell (j := 0) rfl
                    have x1 := I.out.c.cell (j := 1) rfl
                    have f1 := I.out.c.frozen 1
                    go_upto_region 8 with fail
                    go_quiet (fail)
                    obtain ⟨wq, hwq, I2⟩ : ∃ X, X = wr.drewN nq ∧ Hid (CutI w X g s k2) := ⟨_, rfl, hid (I.out.drewN nq)⟩
                    rw [← hwq]
                    clear hwq x0 x1 f1 I nq
                    rename World => wr
                    have I := I2
                    clear I2
                    have x0 := I.out.c.cell (j := 0) rfl
                    have x1 := I.out.c.cell (j := 1) rfl
                    have f1 := I.out.c.frozen 1
                    go_wp2_with fail
                    go_roundw
                    case rel => exact ⟨k2 + 1, by omega, by omega, hid ⟨I.out.succ HG.out, HE2.out⟩⟩
                    case measure => rw [(I.out.succ HG.out).at_, HA.out]; omega
                  · have d8 : ((c.toNat : Int) == 93) = false := by simp; omega
                    have HE2 : Hid (atomL false (s.drop k0) = (atomL true (s.drop (k2 + 1))).map (· + (k2 + 1 - k0))) := hid (by
                      rw [HE.out, HD.out, atomL, if_pos ⟨h32, h127⟩, show (c.toNat != 93) = true by simpa using h93]
                      exact map_shift (by omega))
                    clear HE h93
                    go_upto_region 6 with fail
                    go_quiet (fail)
                    obtain ⟨wq, hwq, I2⟩ : ∃ X, X = wr.drewN nq ∧ Hid (CutI w X g s k2) := ⟨_, rfl, hid (I.out.drewN nq)⟩
                    rw [← hwq]
                    clear hwq x0 x1 f1 I nq
                    rename World => wr
                    have I := I2
                    clear I2
                    have x0 := I.out.c.cell (j := 0) rfl
                    have x1 := I.out.c.cell (j := 1) rfl
                    have f1 := I.out.c.frozen 1
                    go_upto_region 8 with fail
                    go_quiet (fail)
                    obtain ⟨wq, hwq, I2⟩ : ∃ X, X = wr.drewN nq ∧ Hid (CutI w X g s k2) := ⟨_, rfl, hid (I.out.drewN nq)⟩
                    rw [← hwq]
                    clear hwq x0 x1 f1 I nq
                    rename World => wr
                    have I := I2
                    clear I2
                    have x0 := I.out.c.cell (j := 0) rfl
                    have x1 := I.out.c.cell (j := 1) rfl
                    have f1 := I.out.c.frozen 1
                    go_wp2_with fail
                    go_roundw
                    case rel => exact ⟨k2 + 1, by omega, by omega, hid ⟨I.out.succ HG.out, HE2.out⟩⟩
                    case measure => rw [(I.out.succ HG.out).at_, HA2.out]; omega
                · have d7 : decide ((c.toNat : Int) < 127) = false := by simp; omega
                  have d7' : decide (c.toNat < 127) = false := by simpa using h127
                  have HAL : Hid (atomR (s.drop k0) = none) := hid (by unfold atomR; rw [HE.out, HD.out, atomL, if_neg (by omega)]; rfl)
                  clear HE
                  go_upto_region 6 with fail
                  go_quiet (fail)
                  obtain ⟨wq, hwq, I2⟩ : ∃ X, X = wr.drewN nq ∧ Hid (CutI w X g s k2) := ⟨_, rfl, hid (I.out.drewN nq)⟩
                  rw [← hwq]
                  clear hwq x0 x1 f1 I nq
                  rename World => wr
                  have I := I2
                  clear I2
                  have x0 := I.out.c.cell (j := 0) rfl
                  have x1 := I.out.c.cell (j := 1) rfl
                  have f1 := I.out.c.frozen 1
                  have hz := I.out.res HG.out (.int .i64 0) (.string ⟨#[]⟩)
                  have HZ := hid hz
                  have z0 := hz.1
                  have z1 := hz.2.1
                  have rc0 := I.out.r.cell (j := 0) rfl
                  have rc1 := I.out.r.cell (j := 1) rfl
                  have rf0 := I.out.r.frozen 0
                  have rf1 := I.out.r.frozen 1
                  clear hz
                  go_wp2
                  refine bodyPost_ret (v := .tuple #[.agg #[.int .i64 0, .string ⟨#[]⟩], .bool false]) (by simp [results, Try.results22, go_sem, z0, z1]) rfl ?_
                  refine ⟨⟨HZ.out.2.2.2.os, HZ.out.2.2.2.tape, HZ.out.2.2.2.output, HZ.out.2.2.2.size, HZ.out.2.2.2.block⟩, ?_⟩
                  rw [HAL.out]
                  exact ⟨0, _, _, rfl, HZ.out.2.2.1⟩
              · have d6 : decide ((32 : Int) ≤ (c.toNat : Int)) = false := by simp; omega
                have d6' : decide (32 ≤ c.toNat) = false := by simpa using h32
                have HAL : Hid (atomR (s.drop k0) = none) := hid (by unfold atomR; rw [HE.out, HD.out, atomL, if_neg (by omega)]; rfl)
                clear HE
                go_upto_region 6 with fail
                go_quiet (fail)
                obtain ⟨wq, hwq, I2⟩ : ∃ X, X = wr.drewN nq ∧ Hid (CutI w X g s k2) := ⟨_, rfl, hid (I.out.drewN nq)⟩
                rw [← hwq]
                clear hwq x0 x1 f1 I nq
                rename World => wr
                have I := I2
                clear I2
                have x0 := I.out.c.cell (j := 0) rfl
                have x1 := I.out.c.cell (j := 1) rfl
                have f1 := I.out.c.frozen 1
                have hz := I.out.res HG.out (.int .i64 0) (.string ⟨#[]⟩)
                have HZ := hid hz
                have z0 := hz.1
                have z1 := hz.2.1
                have rc0 := I.out.r.cell (j := 0) rfl
                have rc1 := I.out.r.cell (j := 1) rfl
                have rf0 := I.out.r.frozen 0
                have rf1 := I.out.r.frozen 1
                clear hz
                go_wp2
                refine bodyPost_ret (v := .tuple #[.agg #[.int .i64 0, .string ⟨#[]⟩], .bool false]) (by simp [results, Try.results22, go_sem, z0, z1]) rfl ?_
                refine ⟨⟨HZ.out.2.2.2.os, HZ.out.2.2.2.tape, HZ.out.2.2.2.output, HZ.out.2.2.2.size, HZ.out.2.2.2.block⟩, ?_⟩
                rw [HAL.out]
                exact ⟨0, _, _, rfl, HZ.out.2.2.1⟩
            · have d1 : decide ((k2 : Int) < ((str s).size : Int)) = false := by rw [hsz]; simp; omega
              have d1' : decide (k2 < (str s).size) = false := by rw [hsz]; simp; omega
              have HAL : Hid (atomR (s.drop k0) = none) := hid (by unfold atomR; rw [HE.out, List.drop_of_length_le (by omega)]; simp [atomL])
              clear HE
              go_upto_region 6 with fail
              go_quiet (fail)
              obtain ⟨wq, hwq, I2⟩ : ∃ X, X = wr.drewN nq ∧ Hid (CutI w X g s k2) := ⟨_, rfl, hid (I.out.drewN nq)⟩
              rw [← hwq]
              clear hwq x0 x1 f1 I nq
              rename World => wr
              have I := I2
              clear I2
              have x0 := I.out.c.cell (j := 0) rfl
              have x1 := I.out.c.cell (j := 1) rfl
              have f1 := I.out.c.frozen 1
              have hz := I.out.res HG.out (.int .i64 0) (.string ⟨#[]⟩)
              have HZ := hid hz
              have z0 := hz.1
              have z1 := hz.2.1
              have rc0 := I.out.r.cell (j := 0) rfl
              have rc1 := I.out.r.cell (j := 1) rfl
              have rf0 := I.out.r.frozen 0
              have rf1 := I.out.r.frozen 1
              clear hz
              go_wp2
              refine bodyPost_ret (v := .tuple #[.agg #[.int .i64 0, .string ⟨#[]⟩], .bool false]) (by simp [results, Try.results22, go_sem, z0, z1]) rfl ?_
              refine ⟨⟨HZ.out.2.2.2.os, HZ.out.2.2.2.tape, HZ.out.2.2.2.output, HZ.out.2.2.2.size, HZ.out.2.2.2.block⟩, ?_⟩
              rw [HAL.out]
              exact ⟨0, _, _, rfl, HZ.out.2.2.1⟩
        · have d2 : ((c.toNat : Int) != 91) = true := by rw [bne_iff_ne]; omega
          have HE2 : Hid (atomL false (s.drop k0) = (atomL false (s.drop (k + 1))).map (· + (k + 1 - k0))) := hid (by
            rw [HE.out, HD.out, atomL, if_pos HSG.out, show (c.toNat == 91) = false by simpa using h91]
            exact map_shift hk1)
          clear HE h91
          go_upto_region 3 with fail
          go_quiet (fail)
          obtain ⟨wq, hwq, I2⟩ : ∃ X, X = wr.drewN nq ∧ Hid (CutI w X g s k) := ⟨_, rfl, hid (I.out.drewN nq)⟩
          rw [← hwq]
          clear hwq x0 x1 f1 I nq
          rename World => wr
          have I := I2
          clear I2
          have x0 := I.out.c.cell (j := 0) rfl
          have x1 := I.out.c.cell (j := 1) rfl
          have f1 := I.out.c.frozen 1
          go_wp2_with fail
          go_roundw
          case rel => exact ⟨k + 1, by omega, by omega, hid ⟨I.out.succ HG.out, HE2.out⟩⟩
          case measure => rw [(I.out.succ HG.out).at_, HA.out]; omega
      | false =>
        have HAL : Hid (atomL false (s.drop k0) = some (k - k0)) := hid (by rw [HE.out, HD.out, atomL, if_neg (by rw [hsg]; decide)]; simp)
        have SG := hid (sign_q c false hsg)
        clear hsg HE
        go_upto_region 2 with fail
        go_quiet ((go_at_call 31; exact Calls.quiet_of_same (SG.out _)))
        obtain ⟨wq, hwq, I2⟩ : ∃ X, X = wr.drewN nq ∧ Hid (CutI w X g s k) := ⟨_, rfl, hid (I.out.drewN nq)⟩
        rw [← hwq]
        clear hwq x0 x1 f1 I nq
        rename World => wr
        have I := I2
        clear I2
        have x0 := I.out.c.cell (j := 0) rfl
        have x1 := I.out.c.cell (j := 1) rfl
        have f1 := I.out.c.frozen 1
        have rc0 := I.out.r.cell (j := 0) rfl
        have rc1 := I.out.r.cell (j := 1) rfl
        have rf0 := I.out.r.frozen 0
        have rf1 := I.out.r.frozen 1
        have e2 : (0 : Int) ≤ (k0 : Int) := by omega
        have e3 : (k0 : Int) ≤ (k : Int) := by omega
        have e4 : (k : Int) ≤ ((str s).size : Int) := by rw [hsz]; omega
        have hex : (str s).extract k0 k = str ((s.drop k0).take (k - k0)) := str_extract _ _ _
        have hz := I.out.res HG.out (.int .i64 0) (.string (str ((s.drop k0).take (k - k0))))
        have y1 := hz.2.2.1.cell (j := 1) rfl
        have HZ := hid hz
        have z0 := hz.1
        have z1 := hz.2.1
        clear hz
        by_cases hkk : k0 < k
        · have d5 : decide ((k0 : Int) < (k : Int)) = true := by simp; omega
          have d5' : decide (k0 < k) = true := by simpa using hkk
          have HR : Hid (atomR (s.drop k0) = some (⟨0, (s.drop k0).take (k - k0)⟩, k - k0)) := hid (by
            unfold atomR
            rw [HAL.out]
            obtain ⟨m, hm⟩ : ∃ m, k - k0 = m + 1 := ⟨k - k0 - 1, by omega⟩
            rw [hm])
          clear HAL
          go_upto_region 11 with fail
          go_region
          go_wp2
          refine bodyPost_ret (v := .tuple #[.agg #[.int .i64 0, .string (str ((s.drop k0).take (k - k0)))], .bool true]) (by simp [results, Try.results22, go_sem, z0, z1]) rfl ?_
          refine ⟨⟨HZ.out.2.2.2.os, HZ.out.2.2.2.tape, HZ.out.2.2.2.output, HZ.out.2.2.2.size, HZ.out.2.2.2.block⟩, ?_⟩
          rw [HR.out]
          refine ⟨rfl, ?_⟩
          rw [show k0 + (k - k0) = k by omega]
          exact HZ.out.2.2.1
        · have d5 : decide ((k0 : Int) < (k : Int)) = false := by simp; omega
          have d5' : decide (k0 < k) = false := by simpa using hkk
          have HR : Hid (atomR (s.drop k0) = none) := hid (by
            unfold atomR
            rw [HAL.out, show k - k0 = 0 by omega])
          clear HAL
          go_upto_region 11 with fail
          go_region
          go_wp2
          refine bodyPost_ret (v := .tuple #[.agg #[.int .i64 0, .string (str ((s.drop k0).take (k - k0)))], .bool false]) (by simp [results, Try.results22, go_sem, z0, z1]) rfl ?_
          refine ⟨⟨HZ.out.2.2.2.os, HZ.out.2.2.2.tape, HZ.out.2.2.2.output, HZ.out.2.2.2.size, HZ.out.2.2.2.block⟩, ?_⟩
          rw [HR.out]
          exact ⟨0, _, k, rfl, HZ.out.2.2.1⟩
    · have d1 : decide ((k : Int) < ((str s).size : Int)) = false := by rw [hsz]; simp; omega
      have d1' : decide (k < (str s).size) = false := by rw [hsz]; simp; omega
      have HAL : Hid (atomL false (s.drop k0) = some (k - k0)) := hid (by rw [HE.out, List.drop_of_length_le (by omega)]; simp [atomL])
      clear HE
      go_upto_region 2 with fail
      go_quiet (fail)
      obtain ⟨wq, hwq, I2⟩ : ∃ X, X = wr.drewN nq ∧ Hid (CutI w X g s k) := ⟨_, rfl, hid (I.out.drewN nq)⟩
      rw [← hwq]
      clear hwq x0 x1 f1 I nq
      rename World => wr
      have I := I2
      clear I2
      have x0 := I.out.c.cell (j := 0) rfl
      have x1 := I.out.c.cell (j := 1) rfl
      have f1 := I.out.c.frozen 1
      have rc0 := I.out.r.cell (j := 0) rfl
      have rc1 := I.out.r.cell (j := 1) rfl
      have rf0 := I.out.r.frozen 0
      have rf1 := I.out.r.frozen 1
      have e2 : (0 : Int) ≤ (k0 : Int) := by omega
      have e3 : (k0 : Int) ≤ (k : Int) := by omega
      have e4 : (k : Int) ≤ ((str s).size : Int) := by rw [hsz]; omega
      have hex : (str s).extract k0 k = str ((s.drop k0).take (k - k0)) := str_extract _ _ _
      have hz := I.out.res HG.out (.int .i64 0) (.string (str ((s.drop k0).take (k - k0))))
      have y1 := hz.2.2.1.cell (j := 1) rfl
      have HZ := hid hz
      have z0 := hz.1
      have z1 := hz.2.1
      clear hz
      by_cases hkk : k0 < k
      · have d5 : decide ((k0 : Int) < (k : Int)) = true := by simp; omega
        have d5' : decide (k0 < k) = true := by simpa using hkk
        have HR : Hid (atomR (s.drop k0) = some (⟨0, (s.drop k0).take (k - k0)⟩, k - k0)) := hid (by
          unfold atomR
          rw [HAL.out]
          obtain ⟨m, hm⟩ : ∃ m, k - k0 = m + 1 := ⟨k - k0 - 1, by omega⟩
          rw [hm])
        clear HAL
        go_upto_region 11 with fail
        go_region
        go_wp2
        refine bodyPost_ret (v := .tuple #[.agg #[.int .i64 0, .string (str ((s.drop k0).take (k - k0)))], .bool true]) (by simp [results, Try.results22, go_sem, z0, z1]) rfl ?_
        refine ⟨⟨HZ.out.2.2.2.os, HZ.out.2.2.2.tape, HZ.out.2.2.2.output, HZ.out.2.2.2.size, HZ.out.2.2.2.block⟩, ?_⟩
        rw [HR.out]
        refine ⟨rfl, ?_⟩
        rw [show k0 + (k - k0) = k by omega]
        exact HZ.out.2.2.1
      · have d5 : decide ((k0 : Int) < (k : Int)) = false := by simp; omega
        have d5' : decide (k0 < k) = false := by simpa using hkk
        have HR : Hid (atomR (s.drop k0) = none) := hid (by
          unfold atomR
          rw [HAL.out, show k - k0 = 0 by omega])
        clear HAL
        go_upto_region 11 with fail
        go_region
        go_wp2
        refine bodyPost_ret (v := .tuple #[.agg #[.int .i64 0, .string (str ((s.drop k0).take (k - k0)))], .bool false]) (by simp [results, Try.results22, go_sem, z0, z1]) rfl ?_
        refine ⟨⟨HZ.out.2.2.2.os, HZ.out.2.2.2.tape, HZ.out.2.2.2.output, HZ.out.2.2.2.size, HZ.out.2.2.2.block⟩, ?_⟩
        rw [HR.out]
        exact ⟨0, _, k, rfl, HZ.out.2.2.1⟩
end Go.Proofs.Ytlddhgnecfgnkaa
