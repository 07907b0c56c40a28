/-
  Small texts; numbers in texts. A part of the proof: see the head of the text that ends in 'Law'.
-/
import Derived.Test.YtkjlkkaoaiphcaaDoorDa7
namespace Go.Proofs.YtkjlkkaoaiphcaaDoor
open Go.RowKit Go.Shelf
set_option linter.unusedVariables false

theorem smallU_yes {x : UInt8} (h1 : 65 ≤ x.toNat) (h2 : x.toNat ≤ 90) : (smallU x).toNat = x.toNat + 32 := by
  unfold smallU
  rw [if_pos ⟨h1, h2⟩, UInt8.toNat_ofNat_of_lt' (by show x.toNat + 32 < 256; omega)]
theorem smallU_no {x : UInt8} (h : ¬ (65 ≤ x.toNat ∧ x.toNat ≤ 90)) : smallU x = x := by
  unfold smallU
  rw [if_neg h]
/-- The first k are small letters. -/
def lowTo (f : List UInt8) (k : Nat) : List UInt8 := (f.take k).map smallU ++ f.drop k
theorem lowTo_get (f : List UInt8) (k : Nat) (hk : k < f.length) : (lowTo f k)[k]? = some f[k] := by
  unfold lowTo
  rw [List.getElem?_append_right (by simp; omega), List.length_map, List.length_take, Nat.min_eq_left (by omega), Nat.sub_self, List.getElem?_drop]
  simp [hk]
theorem lowTo_len (f : List UInt8) (k : Nat) : (lowTo f k).length = f.length := by
  unfold lowTo
  simp
  omega
theorem set_same {α : Type} {l : List α} {i : Nat} {x : α} (h : l[i]? = some x) : l.set i x = l := by
  apply List.ext_getElem?
  intro j
  rw [List.getElem?_set]
  split
  · rename_i hij
    subst hij
    rw [if_pos (List.getElem?_eq_some_iff.1 h).1, h]
  · rfl
theorem lowTo_set (f : List UInt8) (k : Nat) (hk : k < f.length) : (lowTo f k).set k (smallU f[k]) = lowTo f (k + 1) := by
  apply List.ext_getElem?
  intro i
  unfold lowTo
  rw [List.getElem?_set]
  by_cases h : k = i
  · subst h
    rw [if_pos rfl, if_pos (by simp; omega), List.getElem?_append_left (by simp; omega)]
    simp [hk]
  · rw [if_neg h]
    rcases Nat.lt_or_ge i k with h1 | h1
    · rw [List.getElem?_append_left (by simp; omega), List.getElem?_append_left (by simp; omega), List.getElem?_map, List.getElem?_map, List.getElem?_take_of_lt h1, List.getElem?_take_of_lt (by omega)]
    · rw [List.getElem?_append_right (by simp; omega), List.getElem?_append_right (by simp; omega)]
      simp
      congr 1
      omega
set_option maxHeartbeats 1000000 in
theorem lower_any (f : List UInt8) (w : World) (hl : f.length ≤ 100000) :
    Calls Tryd.prog 54 #[.string (str f)] w fun e w' => e = .returned (.string (str (f.map smallU))) ∧ Below w.heap.size w w' := by
  have hsz : (str f).size ≤ 100000 := hl
  obtain ⟨c, hcv⟩ := run_bytes (P := Tryd.prog) w 9 87 5 f Tryd.underlying9 Tryd.underlying87 Tryd.underlying5
  go_enter Tryd.func54, Tryd.ntmps54
  go_wp2
  have O1 := hid (bytesW_own w 5 f)
  have B1 := hid (bytesW_below w 5 f)
  clear hcv
  generalize bytesW w 5 f = W1 at *
  go_loopw [10] (fun i wr => ∃ k : Nat, k ≤ (str f).size ∧ i = .int .i64 k ∧ Hid (OwnB wr w.heap.size 5 (lowTo f k) ∧ Below w.heap.size w wr)) (fun i wr => (str f).size - (intOf i).toNat)
  case atStart => exact ⟨0, by omega, rfl, hid ⟨O1.out, B1.out⟩⟩
  case round =>
    obtain ⟨k, hk, rfl, hI⟩ := hrel
    clear O1 B1
    by_cases hlt : k < (str f).size
    · have hd : decide (k < (str f).size) = true := by simpa using hlt
      have hlf : k < f.length := hlt
      obtain ⟨x, hx⟩ : ∃ x, f[k] = x := ⟨_, rfl⟩
      have hcx : wr.cell? ⟨w.heap.size, k, none⟩ = some (.int .u8 x.toNat) := hI.out.1.cell (by rw [lowTo_get f k hlf, hx])
      have hfz : wr.frozen? ⟨w.heap.size, k, none⟩ = false := hI.out.1.frozen (by rw [lowTo_len]; exact hlf)
      have hi0 : (0 : Int) ≤ (k : Int) := by omega
      have hi1 : (k : Int) < ((str f).size : Int) := by omega
      have hxl := x.toNat_lt
      have hset := lowTo_set f k hlf
      rw [hx] at hset
      have HSET := hid hset
      have HX := hid hx
      clear hset hx
      by_cases h1 : 65 ≤ x.toNat
      · have d1 : decide (65 ≤ x.toNat) = true := by simpa using h1
        by_cases h2 : x.toNat ≤ 90
        · have d2 : decide (x.toNat ≤ 90) = true := by simpa using h2
          go_wp2
          go_roundw
          case rel =>
            have hs := hI.out.1.set k (smallU x)
            rw [HSET.out, smallU_yes h1 h2] at hs
            refine ⟨k + 1, by omega, by go_num, hid ⟨?_, hI.out.2.setCell (p := ⟨w.heap.size, k, none⟩) (Nat.le_refl _) _⟩⟩
            rw [show ((x.toNat + 32 : Nat) : Int) = (x.toNat : Int) + 32 by omega] at hs
            exact hs
          case measure => simp [intOf]; omega
        · have d2 : decide (x.toNat ≤ 90) = false := by simpa using h2
          go_wp2
          go_roundw
          case rel =>
            refine ⟨k + 1, by omega, by go_num, hid ⟨?_, hI.out.2⟩⟩
            have hs := HSET.out
            rw [smallU_no (fun h => h2 h.2)] at hs
            rw [← hs, set_same (by rw [lowTo_get f k hlf, HX.out])]
            exact hI.out.1
          case measure => simp [intOf]; omega
      · have d1 : decide (65 ≤ x.toNat) = false := by simpa using h1
        go_wp2
        go_roundw
        case rel =>
          refine ⟨k + 1, by omega, by go_num, hid ⟨?_, hI.out.2⟩⟩
          have hs := HSET.out
          rw [smallU_no (fun h => h1 h.1)] at hs
          rw [← hs, set_same (by rw [lowTo_get f k hlf, HX.out])]
          exact hI.out.1
        case measure => simp [intOf]; omega
    · have hd : decide (k < (str f).size) = false := by simpa using hlt
      have hkf : k = f.length := by have : (str f).size = f.length := rfl; omega
      have hup : lowTo f k = f.map smallU := by unfold lowTo; rw [hkf, List.take_length, List.drop_length, List.append_nil]
      have ho := hI.out.1.oct
      rw [hup, List.length_map, show f.length = (str f).size from rfl] at ho
      have hcb := run_string_oct (P := Tryd.prog) c ho Tryd.underlying87 Tryd.underlying5 Tryd.underlying9
      have hB := hid hI.out.2
      clear ho hup hkf hI
      go_wp2
      go_ret
      exact ⟨rfl, hB.out⟩
def digB (x : UInt8) : Bool := decide (48 ≤ x.toNat ∧ x.toNat ≤ 57)
/-- The number of digits. -/
def numV (l : List UInt8) : Nat := l.foldl (fun a x => 10 * a + (x.toNat - 48)) 0
theorem numV_snoc (l : List UInt8) (x : UInt8) : numV (l ++ [x]) = 10 * numV l + (x.toNat - 48) := by simp [numV]
def numOk (l : List UInt8) : Bool := l.all digB && !l.isEmpty
theorem all_snoc (l : List UInt8) (x : UInt8) : (l ++ [x]).all digB = (l.all digB && digB x) := by simp
theorem numG_lt (l : List UInt8) : ∀ a, l.all digB = true → l.foldl (fun a x => 10 * a + (x.toNat - 48)) a < (a + 1) * 10 ^ l.length := by
  induction l with
  | nil => intro a _; simp
  | cons x l ih =>
    intro a h
    rw [List.all_cons, Bool.and_eq_true] at h
    have hx := of_decide_eq_true h.1
    have h1 := ih (10 * a + (x.toNat - 48)) h.2
    rw [List.foldl_cons, List.length_cons, Nat.pow_succ]
    refine Nat.lt_of_lt_of_le h1 ?_
    rw [show (a + 1) * (10 ^ l.length * 10) = (10 * (a + 1)) * 10 ^ l.length by rw [Nat.mul_comm (10 ^ l.length) 10, ← Nat.mul_assoc, Nat.mul_comm (a + 1) 10]]
    exact Nat.mul_le_mul_right _ (by omega)
theorem numV_lt {l : List UInt8} (h : l.all digB = true) : numV l < 10 ^ l.length := by
  have := numG_lt l 0 h
  simpa [numV] using this
theorem numV_lt9 {l : List UInt8} {k : Nat} (h : l.all digB = true) (hl : l.length = k) (hk : k ≤ 9) : numV l < 1000000000 := by
  have h1 := numV_lt h
  rw [hl] at h1
  have : 10 ^ k ≤ 10 ^ 9 := Nat.pow_le_pow_right (by omega) hk
  omega
theorem take_all_false {l : List UInt8} {k : Nat} (hk : k < l.length) (h : digB l[k] = false) : l.all digB = false := by
  rw [List.all_eq_false]
  exact ⟨l[k], List.getElem_mem hk, by rw [h]; decide⟩
def NumPost (w : World) (l : List UInt8) (e : Ending) (w' : World) : Prop := ∃ X : Int, e = .returned (.tuple #[.int .i64 X, .bool (numOk l)]) ∧ (numOk l = true → l.length ≤ 9 → X = numV l) ∧ w = w'
def RNumPost (w : World) (l : List UInt8) (e : Ending) (w' : World) : Prop := ∃ X : Int, e = .returned (.int .i64 X) ∧ (numOk l = false → X = -1) ∧ (numOk l = true → l.length ≤ 9 → X = numV l) ∧ w = w'
theorem numOk_bad {l : List UInt8} {k : Nat} (hk : k < l.length) (h : digB l[k] = false) : numOk l = false := by
  unfold numOk
  rw [take_all_false hk h]
  rfl
theorem numOk_good {l : List UInt8} (h : l.all digB = true) (h0 : l ≠ []) : numOk l = true := by
  unfold numOk
  rw [h]
  cases l with
  | nil => exact absurd rfl h0
  | cons x l => rfl
set_option maxHeartbeats 2000000 in
theorem number_any (l : List UInt8) (w : World) (hl : l.length ≤ 100000) :
    Calls Tryd.prog 53 #[.string (str l)] w (NumPost w l) := by
  have hsz : (str l).size ≤ 100000 := hl
  have HL : Hid ((str l).size = l.length) := hid rfl
  go_enter Tryd.func53, Tryd.ntmps53
  go_wp2
  go_loop [4, 8] (fun t i => ∃ (k : Nat) (X : Int), k ≤ (str l).size ∧ i = .int .i64 (k : Int) ∧ t = .int .i64 X ∧ Hid ((l.take k).all digB = true) ∧ Hid (k ≤ 9 → X = numV (l.take k))) (fun _ i => (str l).size - (intOf i).toNat)
  case atStart => exact ⟨0, 0, by omega, rfl, rfl, hid rfl, hid (fun _ => rfl)⟩
  case round =>
    obtain ⟨k, X, hk, rfl, rfl, hA, hX⟩ := hrel
    by_cases hlt : k < (str l).size
    · have hd : decide (k < (str l).size) = true := by simpa using hlt
      have hll : k < l.length := by rwa [HL.out] at hlt
      obtain ⟨x, hx⟩ : ∃ x, (str l)[k]'hlt = x := ⟨_, rfl⟩
      have hgx : Hid (l[k] = x) := hid hx
      have hxl := x.toNat_lt
      by_cases h1 : x.toNat < 48
      · have d1 : decide (x.toNat < 48) = true := by simpa using h1
        have HB := hid (numOk_bad (k := k) hll (by rw [hgx.out]; exact decide_eq_false (by omega)))
        go_wp2
        go_ret2
        exact ⟨0, by rw [HB.out]; rfl, (fun h => by rw [HB.out] at h; cases h), rfl⟩
      · have d1 : decide (x.toNat < 48) = false := by simpa using h1
        by_cases h2 : 57 < x.toNat
        · have d2 : decide (57 < x.toNat) = true := by simpa using h2
          have HB := hid (numOk_bad (k := k) hll (by rw [hgx.out]; exact decide_eq_false (by omega)))
          go_wp2
          go_ret2
          exact ⟨0, by rw [HB.out]; rfl, (fun h => by rw [HB.out] at h; cases h), rfl⟩
        · have d2 : decide (57 < x.toNat) = false := by simpa using h2
          have h48 : 48 ≤ x.toNat := by omega
          have hts : l.take (k + 1) = l.take k ++ [x] := by rw [List.take_succ_eq_append_getElem hll, hgx.out]
          have HA2 := hid (show (l.take (k + 1)).all digB = true by rw [hts, all_snoc, hA.out, Bool.true_and]; exact decide_eq_true ⟨h48, by omega⟩)
          have HV := hid (show numV (l.take (k + 1)) = 10 * numV (l.take k) + (x.toNat - 48) by rw [hts, numV_snoc])
          clear hts
          by_cases hk9 : k ≤ 8
          · obtain ⟨v, hv⟩ : ∃ v, numV (l.take k) = v := ⟨_, rfl⟩
            have hvb : v < 1000000000 := by rw [← hv]; exact numV_lt9 (k := k) hA.out (by rw [List.length_take]; omega) (by omega)
            obtain rfl : X = v := by rw [← hv]; exact hX.out (by omega)
            have HVV := hid hv
            clear hX hv
            go_wp2
            go_round
            case rel => exact ⟨k + 1, _, by omega, by go_num, rfl, HA2, hid (fun _ => by rw [HV.out, HVV.out]; omega)⟩
            case measure => simp [intOf]; omega
          · clear hX
            go_wp2
            go_round
            case rel => exact ⟨k + 1, _, by omega, by go_num, rfl, HA2, hid (fun h => by omega)⟩
            case measure => simp [intOf]; omega
    · have hd : decide (k < (str l).size) = false := by simpa using hlt
      obtain rfl : k = (str l).size := by omega
      have htk : l.take (str l).size = l := List.take_length
      have hA2 := hA.out
      have hX2 := hX.out
      rw [htk] at hA2 hX2
      by_cases h0 : l = []
      · subst h0
        go_wp2
        go_ret2
        exact ⟨X, rfl, (fun h => by cases h), rfl⟩
      · have hn1 : (str l != (⟨#[]⟩ : ByteArray)) = true := by
          show (str l != str []) = true
          rw [str_bne, bne_iff_ne]
          exact h0
        have hn2 : l.isEmpty = false := by simpa using h0
        have HOK := hid (numOk_good hA2 h0)
        have HX2 := hid hX2
        clear hA2 hX2 htk hA hX
        go_wp2
        go_ret2
        exact ⟨X, by rw [HOK.out]; rfl, fun _ h => HX2.out h, rfl⟩
set_option maxHeartbeats 2000000 in
theorem rnumber_any (l : List UInt8) (w : World) (hl : l.length ≤ 100000) :
    Calls Tryd.prog 38 #[.string (str l)] w (RNumPost w l) := by
  have hsz : (str l).size ≤ 100000 := hl
  have HL : Hid ((str l).size = l.length) := hid rfl
  go_enter Tryd.func38, Tryd.ntmps38
  go_wp2
  go_loop [3, 4] (fun t i => ∃ (k : Nat) (X : Int), k ≤ (str l).size ∧ i = .int .i64 (k : Int) ∧ t = .int .i64 X ∧ Hid ((l.take k).all digB = true) ∧ Hid (k ≤ 9 → X = numV (l.take k))) (fun _ i => (str l).size - (intOf i).toNat)
  case atStart => exact ⟨0, 0, by omega, rfl, rfl, hid rfl, hid (fun _ => rfl)⟩
  case round =>
    obtain ⟨k, X, hk, rfl, rfl, hA, hX⟩ := hrel
    by_cases hlt : k < (str l).size
    · have hd : decide (k < (str l).size) = true := by simpa using hlt
      have hll : k < l.length := by rwa [HL.out] at hlt
      obtain ⟨x, hx⟩ : ∃ x, (str l)[k]'hlt = x := ⟨_, rfl⟩
      have hgx : Hid (l[k] = x) := hid hx
      have hxl := x.toNat_lt
      by_cases h1 : x.toNat < 48
      · have d1 : decide (x.toNat < 48) = true := by simpa using h1
        have HB := hid (numOk_bad (k := k) hll (by rw [hgx.out]; exact decide_eq_false (by omega)))
        go_wp2
        go_ret
        exact ⟨-1, rfl, fun _ => rfl, (fun h => by rw [HB.out] at h; cases h), rfl⟩
      · have d1 : decide (x.toNat < 48) = false := by simpa using h1
        by_cases h2 : 57 < x.toNat
        · have d2 : decide (57 < x.toNat) = true := by simpa using h2
          have HB := hid (numOk_bad (k := k) hll (by rw [hgx.out]; exact decide_eq_false (by omega)))
          go_wp2
          go_ret
          exact ⟨-1, rfl, fun _ => rfl, (fun h => by rw [HB.out] at h; cases h), rfl⟩
        · have d2 : decide (57 < x.toNat) = false := by simpa using h2
          have h48 : 48 ≤ x.toNat := by omega
          have hts : l.take (k + 1) = l.take k ++ [x] := by rw [List.take_succ_eq_append_getElem hll, hgx.out]
          have HA2 := hid (show (l.take (k + 1)).all digB = true by rw [hts, all_snoc, hA.out, Bool.true_and]; exact decide_eq_true ⟨h48, by omega⟩)
          have HV := hid (show numV (l.take (k + 1)) = 10 * numV (l.take k) + (x.toNat - 48) by rw [hts, numV_snoc])
          clear hts
          by_cases hk9 : k ≤ 8
          · obtain ⟨v, hv⟩ : ∃ v, numV (l.take k) = v := ⟨_, rfl⟩
            have hvb : v < 1000000000 := by rw [← hv]; exact numV_lt9 (k := k) hA.out (by rw [List.length_take]; omega) (by omega)
            obtain rfl : X = v := by rw [← hv]; exact hX.out (by omega)
            have HVV := hid hv
            clear hX hv
            go_wp2
            go_round
            case rel => exact ⟨k + 1, _, by omega, by go_num, rfl, HA2, hid (fun _ => by rw [HV.out, HVV.out]; omega)⟩
            case measure => simp [intOf]; omega
          · clear hX
            go_wp2
            go_round
            case rel => exact ⟨k + 1, _, by omega, by go_num, rfl, HA2, hid (fun h => by omega)⟩
            case measure => simp [intOf]; omega
    · have hd : decide (k < (str l).size) = false := by simpa using hlt
      obtain rfl : k = (str l).size := by omega
      have htk : l.take (str l).size = l := List.take_length
      have hA2 := hA.out
      have hX2 := hX.out
      rw [htk] at hA2 hX2
      by_cases h0 : l = []
      · subst h0
        go_wp2
        go_ret
        exact ⟨-1, rfl, fun _ => rfl, (fun h => by cases h), rfl⟩
      · have hn1 : (str l == (⟨#[]⟩ : ByteArray)) = false := by
          show (str l == str []) = false
          rw [str_beq, beq_eq_false_iff_ne]
          exact h0
        have hn2 : l.isEmpty = false := by simpa using h0
        have HOK := hid (numOk_good hA2 h0)
        have HX2 := hid hX2
        clear hA2 hX2 htk hA hX
        go_wp2
        go_ret
        exact ⟨X, rfl, (fun h => by rw [HOK.out] at h; cases h), fun _ h => HX2.out h, rfl⟩
end Go.Proofs.YtkjlkkaoaiphcaaDoor
