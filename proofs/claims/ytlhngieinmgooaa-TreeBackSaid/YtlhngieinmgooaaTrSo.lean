/-
  A key among a page's pairs: slices.IndexFunc at tree.Find's closure; The last kid at most a key: its closures and sort.Search; sort.SliceIsSorted over kids that are; tree.last over sorted kids. A part of the proof: see the head of the text that ends in 'Law'.
-/
import Derived.Test.YtlhngieinmgooaaTr15
import Derived.Lib.ReflectliteSlice
namespace Go.Proofs.Ytlhngieinmgooaa
section
open Go.RowKit
set_option linter.unusedVariables false
set_option maxRecDepth 100000
attribute [local go_sem] Oper.semAt_some
theorem find1_any (k v key B : Nat) (w : World) (hb : w.cell? ⟨B, 0, none⟩ = some (.int .u64 (key : Int))) :
    Calls Try.prog 33 #[.agg #[.int .u64 (k : Int), .int .u64 (v : Int)], .pointer (some ⟨B, 0, none⟩)] w fun e w' => e = .returned (.bool (decide (k = key))) ∧ Below w.heap.size w w' := by
  have hb2 : (w.alloc (.cells #[.int .u64 (k : Int), .int .u64 (v : Int)] 48)).cell? ⟨B, 0, none⟩ = some (.int .u64 (key : Int)) := cells_keep ((Below.refl _ w).alloc (Nat.le_refl _) _) hb
  obtain ⟨t, ht⟩ : ∃ t, decide (k = key) = t := ⟨_, rfl⟩
  have g0 : ((k : Int) == (key : Int)) = t := by
    rw [← ht]
    by_cases h : k = key
    · subst h; simp
    · rw [decide_eq_false h]; exact ne_f h
  have HB : Hid (Below w.heap.size w (w.alloc (.cells #[.int .u64 (k : Int), .int .u64 (v : Int)] 48))) := hid ((Below.refl _ w).alloc (Nat.le_refl _) _)
  rw [ht]
  clear ht
  go_enter Try.func33, Try.ntmps33
  go_wp2_with fail
  go_ret
  exact ⟨by first | rfl | (rw [g0]; rfl), HB.out⟩
set_option maxHeartbeats 4000000 in
theorem idx_any (A : Option Addr) (n c key B : Nat) (l : List Pa) (w : World) (hr : Row w A (l.flatMap paC)) (hn : l.length = n) (hs : n ≤ 100) (hb : w.cell? ⟨B, 0, none⟩ = some (.int .u64 (key : Int))) :
    Calls Try.prog 32 #[.slice A n c, .func (.func 33) #[] #[.pointer (some ⟨B, 0, none⟩)]] w fun e w' => Below w.heap.size w w' ∧
      ((∃ (i : Nat) (h : i < l.length), (l[i]'h).key = key ∧ e = .returned (.int .i64 (i : Int))) ∨ ((∀ p ∈ l, p.key ≠ key) ∧ e = .returned (.int .i64 (-1)))) := by
  have HR := hid hr
  have HN := hid hn
  have HC := hid hb
  have I0 : Hid (Below w.heap.size w w ∧ ∀ p ∈ l.take 0, p.key ≠ key) := hid ⟨Below.refl _ _, fun p hp => by cases hp⟩
  clear hr hn hb
  go_enter Try.func32, Try.ntmps32
  go_wp2_with fail
  go_loopw [8] (fun v8 wr => ∃ j : Nat, j ≤ n ∧ v8 = .int .i64 (j : Int) ∧ Hid (Below w.heap.size w wr ∧ ∀ p ∈ l.take j, p.key ≠ key)) (fun v8 wr => n - (intOf v8).toNat)
  case atStart => exact ⟨0, Nat.zero_le _, rfl, I0⟩
  case round =>
    clear I0
    obtain ⟨j, hj, rfl, HI⟩ := hrel
    rename World => wr
    by_cases hlt : j < n
    · have g1 := lt_t hlt
      have g1' := lt_nt hlt
      have q0 : (0 : Int) ≤ (j : Int) := by omega
      have q1 : (j : Int) < (n : Int) := by omega
      have q2 : (j : Int).toNat = j := by omega
      have hj1 : j < l.length := by rw [HN.out]; exact hlt
      obtain ⟨b, off, rfl, hc⟩ := pa_at HR.out hj1
      have x0 := cells_keep HI.out.1 (hc j hj1).1
      have x1 := cells_keep HI.out.1 (hc j hj1).2
      obtain ⟨p, hp⟩ : ∃ p, l[j]'hj1 = p := ⟨_, rfl⟩
      rw [hp] at x0 x1
      have HF := hid (find1_any p.key p.val key B wr (cells_keep HI.out.1 HC.out))
      have HT : Hid (l.take (j + 1) = l.take j ++ [p]) := hid (by rw [List.take_succ_eq_append_getElem hj1, hp])
      have HP : Hid (∃ h : j < l.length, l[j]'h = p) := hid ⟨hj1, hp⟩
      clear hc hp hj1
      by_cases hk : p.key = key
      · rw [decide_eq_true hk] at HF
        have HKK := hid hk
        clear hk
        go_wp2_with (go_at_call 33; refine HF.out.mono ?_; rintro e w3 ⟨rfl, b3⟩; have HB3 := hid b3; clear b3)
        go_ret
        refine ⟨past HI.out.1 HB3.out, .inl ⟨j, HP.out.1, by rw [HP.out.2, HKK.out], rfl⟩⟩
      · rw [decide_eq_false hk] at HF
        go_wp2_with (go_at_call 33; refine HF.out.mono ?_; rintro e w3 ⟨rfl, b3⟩; have HB3 := hid b3; clear b3)
        go_roundw
        case rel => exact ⟨j + 1, by omega, by go_num, hid ⟨past HI.out.1 HB3.out, fun p2 hp2 => by
          rw [HT.out] at hp2
          rcases List.mem_append.1 hp2 with h | h
          · exact HI.out.2 p2 h
          · rw [List.mem_singleton] at h
            rw [h]
            exact hk⟩⟩
        case measure => simp [intOf]; omega
    · have g1 := lt_f hlt
      have g1' := lt_nf hlt
      have HX : Hid (∀ p ∈ l, p.key ≠ key) := hid (by
        have h := HI.out.2
        rwa [List.take_of_length_le (by rw [HN.out]; omega)] at h)
      go_wp2_with fail
      go_ret
      exact ⟨HI.out.1, .inr ⟨HX.out, rfl⟩⟩
end
section
open Go.RowKit
set_option linter.unusedVariables false
set_option maxRecDepth 100000
attribute [local go_sem] Oper.semAt_some
/-- Kids in a row, and its box. -/
structure KsAt (W : World) (Bk : Nat) (A : Option Addr) (n c : Nat) (ks : List Kd) : Prop where
  box : W.cell? ⟨Bk, 0, none⟩ = some (.slice A n c)
  row : Row W A (ks.flatMap kdC)
  len : ks.length = n
theorem KsAt.below {W W' : World} {Bk : Nat} {A : Option Addr} {n c : Nat} {ks : List Kd} (h : KsAt W Bk A n c ks) (hb : Below W.heap.size W W') : KsAt W' Bk A n c ks := ⟨cells_keep hb h.box, h.row.below hb, h.len⟩
def leastA (ks : List Kd) (i : Nat) : Nat := (ks.getD i ⟨0, 0⟩).least
theorem leastA_eq (ks : List Kd) (i : Nat) (h : i < ks.length) : leastA ks i = (ks[i]'h).least := by unfold leastA; rw [List.getD_eq_getElem?_getD, List.getElem?_eq_getElem h]; rfl
set_option maxHeartbeats 2000000 in
theorem last1_any (Bk : Nat) (A : Option Addr) (n c i j : Nat) (ks : List Kd) (w : World) (h : KsAt w Bk A n c ks) (hi : i < n) (hj : j < n) :
    Calls Try.prog 45 #[.int .i64 (i : Int), .int .i64 (j : Int), .pointer (some ⟨Bk, 0, none⟩)] w fun e w' => e = .returned (.bool (decide (leastA ks i < leastA ks j))) ∧ Below w.heap.size w w' := by
  have cb := h.box
  have hl := h.len
  obtain ⟨b, off, rfl, hc⟩ := kd_at h.row (k := i) (by omega)
  have x0 := (hc i (by omega)).1
  have x1 := (hc j (by omega)).1
  rw [← leastA_eq] at x0 x1
  obtain ⟨a, ha⟩ : ∃ a, leastA ks i = a := ⟨_, rfl⟩
  obtain ⟨d, hd⟩ : ∃ d, leastA ks j = d := ⟨_, rfl⟩
  rw [ha] at x0 ⊢
  rw [hd] at x1 ⊢
  have q0 : (0 : Int) ≤ (i : Int) := by omega
  have q1 : (i : Int) < (n : Int) := by omega
  have q2 : (0 : Int) ≤ (j : Int) := by omega
  have q3 : (j : Int) < (n : Int) := by omega
  have q4 : (i : Int).toNat = i := by omega
  have q5 : (j : Int).toNat = j := by omega
  clear h hc hl ha hd
  go_enter Try.func45, Try.ntmps45
  go_upto_region 1 with fail
  go_quiet (fail)
  go_wp2_with fail
  go_ret
  exact ⟨by first | rfl | simp, bq (Below.refl _ _) _⟩
set_option maxHeartbeats 2000000 in
theorem last2_any (Bk Bx : Nat) (A : Option Addr) (n c i key : Nat) (ks : List Kd) (w : World) (h : KsAt w Bk A n c ks) (hk : w.cell? ⟨Bx, 0, none⟩ = some (.int .u64 (key : Int))) (hi : i < n) :
    Calls Try.prog 47 #[.int .i64 (i : Int), .pointer (some ⟨Bk, 0, none⟩), .pointer (some ⟨Bx, 0, none⟩)] w fun e w' => e = .returned (.bool (decide (key < leastA ks i))) ∧ Below w.heap.size w w' := by
  have cb := h.box
  have hl := h.len
  obtain ⟨b, off, rfl, hc⟩ := kd_at h.row (k := i) (by omega)
  have x0 := (hc i (by omega)).1
  rw [← leastA_eq] at x0
  obtain ⟨a, ha⟩ : ∃ a, leastA ks i = a := ⟨_, rfl⟩
  rw [ha] at x0 ⊢
  have q0 : (0 : Int) ≤ (i : Int) := by omega
  have q1 : (i : Int) < (n : Int) := by omega
  have q4 : (i : Int).toNat = i := by omega
  clear h hc hl ha
  go_enter Try.func47, Try.ntmps47
  go_upto_region 1 with fail
  go_quiet (fail)
  go_wp2_with fail
  go_ret
  exact ⟨by first | rfl | simp, bq (Below.refl _ _) _⟩
set_option maxHeartbeats 4000000 in
theorem srch_any (Bk Bx : Nat) (A : Option Addr) (n c key : Nat) (ks : List Kd) (w : World) (h : KsAt w Bk A n c ks) (hk : w.cell? ⟨Bx, 0, none⟩ = some (.int .u64 (key : Int))) (hn : n ≤ 100)
    (hmono : ∀ i j, i ≤ j → j < n → leastA ks i ≤ leastA ks j) :
    Calls Try.prog 46 #[.int .i64 (n : Int), .func (.func 47) #[] #[.pointer (some ⟨Bk, 0, none⟩), .pointer (some ⟨Bx, 0, none⟩)]] w fun e w' => Below w.heap.size w w' ∧ ∃ r : Nat, r ≤ n ∧ e = .returned (.int .i64 (r : Int)) ∧ (∀ i, i < r → leastA ks i ≤ key) ∧ (∀ i, r ≤ i → i < n → key < leastA ks i) := by
  have HK := hid h
  have HX := hid hk
  have HM := hid hmono
  have I0 : Hid (Below w.heap.size w w ∧ (∀ i, i < 0 → leastA ks i ≤ key) ∧ (∀ i, n ≤ i → i < n → key < leastA ks i)) := hid ⟨Below.refl _ _, fun i hi => by omega, fun i h1 h2 => by omega⟩
  clear h hk hmono
  go_enter Try.func46, Try.ntmps46
  go_wp2_with fail
  go_loopw [5, 6] (fun v5 v6 wr => ∃ lo hi : Nat, lo ≤ hi ∧ hi ≤ n ∧ v5 = .int .i64 (lo : Int) ∧ v6 = .int .i64 (hi : Int) ∧ Hid (Below w.heap.size w wr ∧ (∀ i, i < lo → leastA ks i ≤ key) ∧ (∀ i, hi ≤ i → i < n → key < leastA ks i))) (fun v5 v6 wr => (intOf v6).toNat - (intOf v5).toNat)
  case atStart => exact ⟨0, n, Nat.zero_le _, Nat.le_refl _, rfl, rfl, I0⟩
  case round =>
    clear I0
    obtain ⟨lo, hi, h1, h2, rfl, rfl, HI⟩ := hrel
    rename World => wr
    by_cases hlt : lo < hi
    · have g1 := lt_t hlt
      have g1' := lt_nt hlt
      obtain ⟨m, hm⟩ : ∃ m, (lo + hi) / 2 = m := ⟨_, rfl⟩
      have q0 : (0 : Int) ≤ (lo : Int) + (hi : Int) := by omega
      have q1 : (lo : Int) + (hi : Int) ≤ 200 := by omega
      have q2 : ((lo : Int) + (hi : Int)) / 2 = (m : Int) := by omega
      have m1 : m < hi := by omega
      have m2 : lo ≤ m := by omega
      have w1 : IntKind.i64.wrap ((lo : Int) + (hi : Int)) = (lo : Int) + (hi : Int) := by rw [IntKind.wrap_i64]; omega
      have w2 : IntKind.u64.wrap ((lo : Int) + (hi : Int)) = (lo : Int) + (hi : Int) := by rw [IntKind.wrap_u64]; omega
      have w3 : IntKind.i64.wrap (m : Int) = (m : Int) := by rw [IntKind.wrap_i64]; omega
      have w4 : IntKind.u64.wrap (m : Int) = (m : Int) := by rw [IntKind.wrap_u64]; omega
      clear hm
      have HF := hid (last2_any Bk Bx A n c m key ks wr (HK.out.below HI.out.1) (cells_keep HI.out.1 HX.out) (by omega))
      by_cases hkm : key < leastA ks m
      · rw [decide_eq_true hkm] at HF
        have HKM := hid hkm
        clear hkm
        go_wp2_with (go_at_call 47; refine HF.out.mono ?_; rintro e wz ⟨rfl, b3⟩; have HB3 := hid b3; clear b3)
        go_roundw
        case rel => exact ⟨lo, m, m2, by omega, rfl, rfl, hid ⟨past HI.out.1 HB3.out, HI.out.2.1, fun i k1 k2 => Nat.lt_of_lt_of_le HKM.out (HM.out m i k1 k2)⟩⟩
        case measure => simp [intOf]; omega
      · rw [decide_eq_false hkm] at HF
        have HKM := hid hkm
        clear hkm
        go_wp2_with (go_at_call 47; refine HF.out.mono ?_; rintro e wz ⟨rfl, b3⟩; have HB3 := hid b3; clear b3)
        go_roundw
        case rel => exact ⟨m + 1, hi, by omega, h2, by go_num, rfl, hid ⟨past HI.out.1 HB3.out, fun i k1 => Nat.le_trans (HM.out i m (by omega) (by omega)) (by have := HKM.out; omega), HI.out.2.2⟩⟩
        case measure => simp [intOf]; omega
    · have g1 := lt_f hlt
      have g1' := lt_nf hlt
      have he : lo = hi := by omega
      subst he
      go_wp2_with fail
      go_ret
      exact ⟨HI.out.1, lo, h2, rfl, HI.out.2.1, HI.out.2.2⟩
end
section
open Go.RowKit
set_option linter.unusedVariables false
set_option maxRecDepth 100000
attribute [local go_sem] Oper.semAt_some
set_option maxHeartbeats 4000000 in
theorem sis_any (Bk : Nat) (A : Option Addr) (n c : Nat) (ks : List Kd) (w : World) (h : KsAt w Bk A n c ks) (hn : n ≤ 100) (hmono : ∀ i j, i ≤ j → j < n → leastA ks i ≤ leastA ks j) :
    Calls Try.prog 44 #[.iface 50 (.slice A n c), .func (.func 45) #[] #[.pointer (some ⟨Bk, 0, none⟩)]] w fun e w' => e = .returned (.bool true) ∧ Below w.heap.size w w' := by
  have HK := hid h
  have HM := hid hmono
  clear h hmono
  obtain ⟨i0, hi0, hd0⟩ : ∃ i0, Try.prog.info? 50 = some i0 ∧ i0.desc = .slice 57 := ⟨_, rfl, rfl⟩
  have hpk : Try.prog.packed 50 = false := by kernel_rfl
  have hv := Lib.run_valueOf_slice (P := Try.prog) 50 57 i0 hi0 hd0 A n c w
  have hl := fun a w ha => Lib.run_valueLen_slice (P := Try.prog) 50 57 i0 hi0 hd0 hpk a A n c w ha
  simp only [typeHandle] at hv hl
  have hgz : Try.prog.globals.size = 0 := by kernel_rfl
  rw [hgz] at hv
  simp only [hgz] at hl
  have HV := hid hv
  have HLL := hid hl
  clear hv hl hi0 hd0 hpk
  go_enter Try.func44, Try.ntmps44
  go_wp2
  rw [run_callFunc_extern Try.func54 (by kernel_rfl) (by kernel_rfl) (by kernel_rfl) (e := fun args => Extern.ReflectliteValue.unpack (args.getD 0 (.tuple #[]))) (by kernel_rfl),
    show Sem.run Try.prog ((fun args : Array Value => Extern.ReflectliteValue.unpack (args.getD 0 (.tuple #[]))) #[.iface 50 (.slice A n c)]) w = _ from HV.out]
  simp only [Result.andThen]
  rw [Oper.upon_value]
  go_wp2
  rw [run_callFunc_extern Try.func55 (by kernel_rfl) (by kernel_rfl) (by kernel_rfl) (e := Extern.ReflectliteValue.method (Extern.ReflectliteValue.valueError "reflectlite.Value.Len" 0) Extern.ReflectliteValue.len) (by kernel_rfl),
    HLL.out _ _ (by simp)]
  simp only [Result.andThen]
  rw [Oper.upon_value]
  obtain ⟨wa, hwa⟩ : ∃ wa, (w.alloc (.cells #[.slice A n c] 50)).alloc (.cells #[.pointer (some ⟨0, 50, none⟩), .pointer (some ⟨w.heap.size, 0, none⟩), .int .u64 151] 105) = wa := ⟨_, rfl⟩
  have HBA : Hid (Below w.heap.size w wa) := hid (by rw [← hwa]; exact ((Below.refl _ w).alloc (Nat.le_refl _) _).alloc (by simp) _)
  rw [hwa]
  clear hwa HV HLL
  go_wp2_with fail
  go_loopw [7] (fun v7 wr => ∃ (x : Int) (j : Nat), j ≤ n ∧ x = (j : Int) - 1 ∧ v7 = .int .i64 x ∧ Hid (Below w.heap.size w wr)) (fun v7 wr => (intOf v7 + 1).toNat)
  case atStart => exact ⟨(n : Int) - 1, n, Nat.le_refl _, rfl, rfl, HBA⟩
  case round =>
    clear HBA
    obtain ⟨x, j, hj, hx, rfl, HB⟩ := hrel
    rename World => wr
    by_cases h0 : 0 < x
    · obtain ⟨m, rfl⟩ := Int.eq_ofNat_of_zero_le (by omega : 0 ≤ x)
      obtain ⟨q, hq⟩ : ∃ q, m - 1 = q := ⟨_, rfl⟩
      have g1 : decide ((0 : Int) < (m : Int)) = true := by rw [decide_eq_true_iff]; exact h0
      have g1' : decide (0 < m) = true := by rw [decide_eq_true_iff]; omega
      have hqi : (m : Int) - 1 = (q : Int) := by omega
      have hmn : m < n := by omega
      have hqm : q ≤ m := by omega
      have hq0 : (0 : Int) ≤ (q : Int) := by omega
      have w1 : IntKind.i64.wrap ((m : Int) - 1) = (q : Int) := by rw [IntKind.wrap_i64]; omega
      have HF := hid (last1_any Bk A n c m q ks wr (HK.out.below HB.out) hmn (by omega))
      rw [decide_eq_false (by have := HM.out q m hqm hmn; omega)] at HF
      have HQ := hid hqi
      clear hx h0 hq
      go_wp2_with (go_at_call 45; refine HF.out.mono ?_; rintro e wz ⟨rfl, b3⟩; have HB3 := hid b3; clear b3)
      go_roundw
      case rel => exact ⟨(q : Int), q + 1, by omega, by omega, rfl, hid (past HB.out HB3.out)⟩
      case measure => simp [intOf]; omega
    · have g1 : decide (0 < x) = false := by rw [decide_eq_false_iff_not]; exact h0
      go_wp2_with fail
      go_ret
      exact ⟨rfl, HB.out⟩
end
section
open Go.RowKit
set_option linter.unusedVariables false
set_option maxRecDepth 100000
attribute [local go_sem] Oper.semAt_some
theorem ls_res {tmps : Array Value} {w : World} {g : Nat} {v : Value} (p1 : tmps.getD 4 undef = .pointer (some ⟨g, 0, none⟩)) (h1 : w.cell? ⟨g, 0, none⟩ = some v) :
    (results Try.f34 tmps).run Try.prog w = .ok v w := by
  have p1' : tmps[4]?.getD undef = .pointer (some ⟨g, 0, none⟩) := by simpa using p1
  have a1 : (isAgg 3).run Try.prog w = .ok false w := by unfold isAgg; rw [Sem.run_bind, run_underlying Try.underlying3 w]; rfl
  simp [results, Try.results34, p1', asAddr, loadVar, Sem.run_bind, a1, h1, Result.andThen]
theorem own_al {w : World} {g : Nat} {T : TypeId} {xs : List Value} (h : OwnE w g T xs) (o : Obj) : OwnE (w.alloc o) g T xs := h.below ((Below.refl _ w).alloc (Nat.le_refl _) o)
set_option maxHeartbeats 4000000 in
theorem last_any (A : Option Addr) (n c key : Nat) (ks : List Kd) (w : World) (hr : Row w A (ks.flatMap kdC)) (hl : ks.length = n) (hn : n ≤ 100) (hmono : ∀ i j, i ≤ j → j < n → leastA ks i ≤ leastA ks j) :
    Calls Try.prog 34 #[.slice A n c, .int .u64 (key : Int)] w fun e w' => Below w.heap.size w w' ∧ ∃ r : Nat, r ≤ n ∧ e = .returned (.int .i64 ((r : Int) - 1)) ∧ (∀ i, i < r → leastA ks i ≤ key) ∧ (∀ i, r ≤ i → i < n → key < leastA ks i) := by
  have HR := hid hr
  have HL := hid hl
  have HM := hid hmono
  clear hr hl hmono
  go_enter Try.func34, Try.ntmps34
  go_upto_region 1 with fail
  obtain ⟨w0, hw0⟩ : ∃ w0, ((w.alloc (.cells #[.slice A n c] 50)).alloc (.cells #[.int .u64 (key : Int)] 44)).alloc (.cells #[.int .i64 0] 3) = w0 := ⟨_, rfl⟩
  have hb0 : Below w.heap.size w w0 := by rw [← hw0]; exact (((Below.refl _ w).alloc (Nat.le_refl _) _).alloc (by simp) _).alloc (by simp; omega) _
  have k1 : OwnE w0 w.heap.size 50 [.slice A n c] := by rw [← hw0]; exact own_al (own_al (OwnE.new_ w [.slice A n c] 50) _) _
  have k2 : OwnE w0 (w.heap.size + 1) 44 [.int .u64 (key : Int)] := by
    rw [← hw0]
    have h := own_al (OwnE.new_ (w.alloc (.cells #[.slice A n c] 50)) [.int .u64 (key : Int)] 44) (.cells #[.int .i64 0] 3)
    rwa [World.size_alloc] at h
  have k3 : OwnE w0 (w.heap.size + 1 + 1) 3 [.int .i64 0] := by
    rw [← hw0]
    have h := OwnE.new_ ((w.alloc (.cells #[.slice A n c] 50)).alloc (.cells #[.int .u64 (key : Int)] 44)) [.int .i64 0] 3
    rwa [World.size_alloc, World.size_alloc] at h
  rw [hw0]
  have c1 := k1.cell (j := 0) rfl
  have c2 := k2.cell (j := 0) rfl
  have HK0 := hid (show KsAt w0 w.heap.size A n c ks from ⟨c1, HR.out.below hb0, HL.out⟩)
  have HB0 := hid hb0
  have HK3 := hid k3
  have HC2 := hid c2
  have HC1 := hid c1
  clear hw0 hb0 k1 k2 k3
  have HS := hid (sis_any w.heap.size A n c ks w0 HK0.out hn HM.out)
  have HSR := hid (fun (X : World) (hb : Below w0.heap.size w0 X) => srch_any w.heap.size (w.heap.size + 1) A n c key ks X (HK0.out.below hb) (cells_keep hb HC2.out) hn HM.out)
  go_wp2_with (first
    | (go_at_call 44; refine HS.out.mono ?_; rintro e w1 ⟨rfl, b1⟩; have HB1 := hid b1; have d1 := cells_keep b1 HC1.out; clear b1)
    | (go_at_call 46; refine (HSR.out w1 HB1.out).mono ?_; rintro e w2 ⟨b2, r, hr, rfl, h5, h6⟩; have HB2 := hid b2; have H5 := hid h5; have H6 := hid h6; have HK4 := hid ((HK3.out.below HB1.out).below b2); have d3 := HK4.out.cell (j := 0) rfl; have f3 := HK4.out.frozen 0; have wr : IntKind.i64.wrap ((r : Int) - 1) = (r : Int) - 1 := by (rw [IntKind.wrap_i64]; omega)
       clear b2 h5 h6))
  have HK5 := OwnE.set HK4.out 0 (.int .i64 ((r : Int) - 1))
  refine bodyPost_ret (ls_res rfl (HK5.cell (j := 0) rfl)) rfl ?_
  exact ⟨(past (past HB0.out HB1.out) HB2.out).setCell (p := ⟨w.heap.size + 1 + 1, 0, none⟩) (by simp; omega) _, r, hr, rfl, H5.out, H6.out⟩
end
end Go.Proofs.Ytlhngieinmgooaa
